import Derived.Test.YtnihngljmmbenaaGreatDoorBitZ
import Derived.Test.YtnihngljmmbenaaGreatDoorGB
import Derived.Test.YtnihngljmmbenaaGreatDoorGA
namespace Go.Proofs.YtnihngljmmbenaaGreatDoor
set_option linter.unusedVariables false
set_option linter.unusedSimpArgs false
section
open Go.RowKit

abbrev Vl.v (s : Vl) : Value := .agg #[.bool s.has, .int .u64 (s.prev : Nat), .int .u8 (s.lead : Nat), .int .u8 (s.width : Nat)]
abbrev bandV (lead size : Int) : Value := .agg #[.int .i64 lead, .int .i64 size]

set_option maxHeartbeats 1000000 in
theorem xsound_any (s : Vl) (hs : s.wf) (w : World) : Calls Tryz.prog 164 #[s.v] w (Ret w (.bool (soundV s))) := by
  obtain ⟨has, prev, lead, width⟩ := s
  obtain ⟨h1, h2, h3⟩ := hs
  simp only at h1 h2 h3
  cases has
  · go_enter Tryz.func164, Tryz.ntmps164
    go_wp2
    all_goals (go_ret; refine ⟨ovA, ret_bool ?_⟩)
    all_goals (rw [Bool.eq_iff_iff]; simp [soundV]; try first | omega | (simp_all; done) | (simp_all; omega))
  · go_enter Tryz.func164, Tryz.ntmps164
    go_wp2
    all_goals (go_ret; refine ⟨ovA, ret_bool ?_⟩)
    all_goals (rw [Bool.eq_iff_iff]; simp [soundV]; try first | omega | (simp_all; done) | (simp_all; omega))
set_option maxHeartbeats 400000 in
theorem of_any (s : Vl) (hs : s.wf) (w : World) : Calls Tryz.prog 167 #[s.v] w (Ret w (bandV s.lead s.width)) := by
  obtain ⟨has, prev, lead, width⟩ := s
  obtain ⟨h1, h2, h3⟩ := hs
  simp only at h1 h2 h3
  go_enter Tryz.func167, Tryz.ntmps167
  go_wp2
  (try simp only [Exit.inBlock, Exit.then])
  refine bodyPost_ret (v := ?rv3) ?rh3 rfl ?rp3
  case rh3 => (simp only [results, show Tryz.f167.results = #[.cell 2 277] from rfl]; go_simp; rfl)
  exact ⟨ovA, rfl⟩

set_option maxHeartbeats 400000 in
theorem down_any (lead size : Int) (h1 : 0 ≤ lead ∧ lead ≤ 1000) (h2 : 0 ≤ size ∧ size ≤ 1000) (w : World) : Calls Tryz.prog 169 #[bandV lead size] w (Ret w (.int .i64 (64 - lead - size))) := by
  obtain ⟨h1, h1'⟩ := h1
  obtain ⟨h2, h2'⟩ := h2
  go_enter Tryz.func169, Tryz.ntmps169
  go_wp2
  go_ret
  exact ⟨ovA, rfl⟩

set_option maxHeartbeats 1000000 in
theorem around_any (d : Nat) (hd : d < 18446744073709551616) (h0 : d ≠ 0) (w : World) (hT : TabW w) : Calls Tryz.prog 170 #[.int .u64 (d : Nat)] w (Ret w (bandV (aLead d) (aSize d))) := by
  have HL := hid (fun W => lz_any d hd W)
  have HZ := hid (fun W hW => tz_any d hd h0 W hW)
  have hA := around_le hd h0
  have hz := (tz_spec hd h0).1
  have hlz := (lz_spec hd h0).1
  have hs := hid hA.2.2.2.2.2.2
  have hle := hA.1
  have hl := hid (show aLead d = min (lz d) 31 from rfl)
  clear hA
  by_cases h31 : (lz d : Int) ≤ 31
  · go_enter Tryz.func170, Tryz.ntmps170
    go_wp2_with (first | (go_at_call 184; (with_reducible refine (HL.out _).mono ?_); rintro _ _ ⟨rfl, rfl⟩) | (go_at_call 185; (with_reducible refine (HZ.out _ (by exact tabA hT)).mono ?_); rintro _ _ ⟨rfl, rfl⟩))
    (try simp only [Exit.inBlock, Exit.then])
    refine bodyPost_ret (v := ?rv4) ?rh4 rfl ?rp4
    case rh4 => (simp only [results, show Tryz.f170.results = #[.cell 2 277] from rfl]; go_simp; rfl)
    have e1 : aLead d = lz d := by rw [hl.out]; omega
    refine ⟨ovA, ?_⟩
    have := hs.out
    simp only [Ending.returned.injEq, Value.agg.injEq, Array.mk.injEq, List.cons.injEq, Value.int.injEq, true_and, and_true]
    omega
  · have h31' : (31 : Int) < (lz d : Int) := by omega
    go_enter Tryz.func170, Tryz.ntmps170
    go_wp2_with (first | (go_at_call 184; (with_reducible refine (HL.out _).mono ?_); rintro _ _ ⟨rfl, rfl⟩) | (go_at_call 185; (with_reducible refine (HZ.out _ (by exact tabA hT)).mono ?_); rintro _ _ ⟨rfl, rfl⟩))
    (try simp only [Exit.inBlock, Exit.then])
    refine bodyPost_ret (v := ?rv5) ?rh5 rfl ?rp5
    case rh5 => (simp only [results, show Tryz.f170.results = #[.cell 2 277] from rfl]; go_simp; rfl)
    have e1 : aLead d = 31 := by rw [hl.out]; omega
    refine ⟨ovA, ?_⟩
    have := hs.out
    simp only [Ending.returned.injEq, Value.agg.injEq, Array.mk.injEq, List.cons.injEq, Value.int.injEq, true_and, and_true]
    omega

set_option maxRecDepth 100000 in
set_option maxHeartbeats 1000000 in
theorem has_any (lead size d : Nat) (hd : d < 18446744073709551616) (h0 : d ≠ 0) (hl : lead + size ≤ 64) (w : World) (hT : TabW w) : Calls Tryz.prog 168 #[bandV lead size, .int .u64 (d : Nat)] w (Ret w (.bool (inBand lead size d))) := by
  have HL := hid (fun W => lz_any d hd W)
  have HZ := hid (fun W hW => tz_any d hd h0 W hW)
  have HD := hid (fun W => down_any lead size (by omega) (by omega) W)
  have hlead : lead ≤ 64 := by omega
  have hsize : size ≤ 64 := by omega
  have hz := (tz_spec hd h0).1
  have hlz := (lz_spec hd h0).1
  cases g1 : decide (0 < size)
  · have HE := hid (show false = inBand lead size d by unfold inBand; rw [g1]; rfl)
    go_enter Tryz.func168, Tryz.ntmps168
    go_wp2
    refine M2.wp_region_mix [5, 12, 14] 18 (by kernel_rfl) (by kernel_rfl) (by decide) ?_
    simp only [M2.td]
    with_reducible refine M2.mixL_quiet 5 (by kernel_rfl) ?_
    simp only [M2.td]
    repeat (go_big_quiet_step (fail))
    with_reducible refine wpQuiet_nil ?_
    with_reducible refine M2.mixL_eff (by decide) ?_
    go_wp2_with ((go_at_call 184; (with_reducible refine (HL.out _).mono ?_); rintro _ _ ⟨rfl, rfl⟩))
    refine M2.MixQ.mk ovA ?_
    with_reducible refine M2.mixL_quiet 6 (by kernel_rfl) ?_
    simp only [M2.td]
    repeat (go_big_quiet_step (fail))
    with_reducible refine wpQuiet_nil ?_
    with_reducible refine M2.mixL_eff (by decide) ?_
    go_wp2_with ((go_at_call 185; (with_reducible refine (HZ.out _ (by exact tabA hT)).mono ?_); rintro _ _ ⟨rfl, rfl⟩))
    refine M2.MixQ.mk ovA ?_
    with_reducible refine M2.mixL_quiet 1 (by kernel_rfl) ?_
    simp only [M2.td]
    repeat (go_big_quiet_step (fail))
    with_reducible refine wpQuiet_nil ?_
    with_reducible refine M2.mixL_eff (by decide) ?_
    go_wp2_with ((go_at_call 169; (with_reducible refine (HD.out _).mono ?_); rintro _ _ ⟨⟨e3, rfl⟩, rfl⟩))
    refine M2.MixQ.mk ovA ?_
    with_reducible refine M2.mixL_quiet 3 (by kernel_rfl) ?_
    simp only [M2.td]
    repeat (go_big_quiet_step (fail))
    with_reducible refine wpQuiet_nil ?_
    with_reducible refine M2.mixL_nil ?_
    with_reducible refine M2.mixL_nil ?_
    go_wp2
    go_ret
    exact ⟨ovA, ret_bool HE.out⟩
  · cases g2 : decide (lead ≤ lz d)
    · have HE := hid (show false = inBand lead size d by unfold inBand; rw [g2]; simp)
      go_enter Tryz.func168, Tryz.ntmps168
      go_wp2
      refine M2.wp_region_mix [5, 12, 14] 18 (by kernel_rfl) (by kernel_rfl) (by decide) ?_
      simp only [M2.td]
      with_reducible refine M2.mixL_quiet 5 (by kernel_rfl) ?_
      simp only [M2.td]
      repeat (go_big_quiet_step (fail))
      with_reducible refine wpQuiet_nil ?_
      with_reducible refine M2.mixL_eff (by decide) ?_
      go_wp2_with ((go_at_call 184; (with_reducible refine (HL.out _).mono ?_); rintro _ _ ⟨rfl, rfl⟩))
      refine M2.MixQ.mk ovA ?_
      with_reducible refine M2.mixL_quiet 6 (by kernel_rfl) ?_
      simp only [M2.td]
      repeat (go_big_quiet_step (fail))
      with_reducible refine wpQuiet_nil ?_
      with_reducible refine M2.mixL_eff (by decide) ?_
      go_wp2_with ((go_at_call 185; (with_reducible refine (HZ.out _ (by exact tabA hT)).mono ?_); rintro _ _ ⟨rfl, rfl⟩))
      refine M2.MixQ.mk ovA ?_
      with_reducible refine M2.mixL_quiet 1 (by kernel_rfl) ?_
      simp only [M2.td]
      repeat (go_big_quiet_step (fail))
      with_reducible refine wpQuiet_nil ?_
      with_reducible refine M2.mixL_eff (by decide) ?_
      go_wp2_with ((go_at_call 169; (with_reducible refine (HD.out _).mono ?_); rintro _ _ ⟨⟨e3, rfl⟩, rfl⟩))
      refine M2.MixQ.mk ovA ?_
      with_reducible refine M2.mixL_quiet 3 (by kernel_rfl) ?_
      simp only [M2.td]
      repeat (go_big_quiet_step (fail))
      with_reducible refine wpQuiet_nil ?_
      with_reducible refine M2.mixL_nil ?_
      with_reducible refine M2.mixL_nil ?_
      go_wp2
      go_ret
      exact ⟨ovA, ret_bool HE.out⟩
    · cases g3 : decide (64 - (lead : Int) - (size : Int) ≤ (tz d : Int))
      · have HE := hid (show false = inBand lead size d by unfold inBand; rw [decide_eq_false (p := 64 - lead - size ≤ tz d) (by have := of_decide_eq_false g3; omega)]; simp)
        go_enter Tryz.func168, Tryz.ntmps168
        go_wp2
        refine M2.wp_region_mix [5, 12, 14] 18 (by kernel_rfl) (by kernel_rfl) (by decide) ?_
        simp only [M2.td]
        with_reducible refine M2.mixL_quiet 5 (by kernel_rfl) ?_
        simp only [M2.td]
        repeat (go_big_quiet_step (fail))
        with_reducible refine wpQuiet_nil ?_
        with_reducible refine M2.mixL_eff (by decide) ?_
        go_wp2_with ((go_at_call 184; (with_reducible refine (HL.out _).mono ?_); rintro _ _ ⟨rfl, rfl⟩))
        refine M2.MixQ.mk ovA ?_
        with_reducible refine M2.mixL_quiet 6 (by kernel_rfl) ?_
        simp only [M2.td]
        repeat (go_big_quiet_step (fail))
        with_reducible refine wpQuiet_nil ?_
        with_reducible refine M2.mixL_eff (by decide) ?_
        go_wp2_with ((go_at_call 185; (with_reducible refine (HZ.out _ (by exact tabA hT)).mono ?_); rintro _ _ ⟨rfl, rfl⟩))
        refine M2.MixQ.mk ovA ?_
        with_reducible refine M2.mixL_quiet 1 (by kernel_rfl) ?_
        simp only [M2.td]
        repeat (go_big_quiet_step (fail))
        with_reducible refine wpQuiet_nil ?_
        with_reducible refine M2.mixL_eff (by decide) ?_
        go_wp2_with ((go_at_call 169; (with_reducible refine (HD.out _).mono ?_); rintro _ _ ⟨⟨e3, rfl⟩, rfl⟩))
        refine M2.MixQ.mk ovA ?_
        with_reducible refine M2.mixL_quiet 3 (by kernel_rfl) ?_
        simp only [M2.td]
        repeat (go_big_quiet_step (fail))
        with_reducible refine wpQuiet_nil ?_
        with_reducible refine M2.mixL_nil ?_
        with_reducible refine M2.mixL_nil ?_
        go_wp2
        go_ret
        exact ⟨ovA, ret_bool HE.out⟩
      · have HE := hid (show true = inBand lead size d by unfold inBand; rw [g1, g2, decide_eq_true (p := 64 - lead - size ≤ tz d) (by have := of_decide_eq_true g3; omega)]; simp)
        go_enter Tryz.func168, Tryz.ntmps168
        go_wp2
        refine M2.wp_region_mix [5, 12, 14] 18 (by kernel_rfl) (by kernel_rfl) (by decide) ?_
        simp only [M2.td]
        with_reducible refine M2.mixL_quiet 5 (by kernel_rfl) ?_
        simp only [M2.td]
        repeat (go_big_quiet_step (fail))
        with_reducible refine wpQuiet_nil ?_
        with_reducible refine M2.mixL_eff (by decide) ?_
        go_wp2_with ((go_at_call 184; (with_reducible refine (HL.out _).mono ?_); rintro _ _ ⟨rfl, rfl⟩))
        refine M2.MixQ.mk ovA ?_
        with_reducible refine M2.mixL_quiet 6 (by kernel_rfl) ?_
        simp only [M2.td]
        repeat (go_big_quiet_step (fail))
        with_reducible refine wpQuiet_nil ?_
        with_reducible refine M2.mixL_eff (by decide) ?_
        go_wp2_with ((go_at_call 185; (with_reducible refine (HZ.out _ (by exact tabA hT)).mono ?_); rintro _ _ ⟨rfl, rfl⟩))
        refine M2.MixQ.mk ovA ?_
        with_reducible refine M2.mixL_quiet 1 (by kernel_rfl) ?_
        simp only [M2.td]
        repeat (go_big_quiet_step (fail))
        with_reducible refine wpQuiet_nil ?_
        with_reducible refine M2.mixL_eff (by decide) ?_
        go_wp2_with ((go_at_call 169; (with_reducible refine (HD.out _).mono ?_); rintro _ _ ⟨⟨e3, rfl⟩, rfl⟩))
        refine M2.MixQ.mk ovA ?_
        with_reducible refine M2.mixL_quiet 3 (by kernel_rfl) ?_
        simp only [M2.td]
        repeat (go_big_quiet_step (fail))
        with_reducible refine wpQuiet_nil ?_
        with_reducible refine M2.mixL_nil ?_
        with_reducible refine M2.mixL_nil ?_
        go_wp2
        go_ret
        exact ⟨ovA, ret_bool HE.out⟩
end
section
open Go.RowKit

structure Pt where
  v : Nat
  width : Nat
  deriving Inhabited
def Pt.cs (p : Pt) : List Value := [.int .u64 (p.v : Nat), .int .i64 (p.width : Nat)]
theorem Pt.cs_len (p : Pt) : p.cs.length = 2 := rfl
abbrev SlPt (w : World) (a : Option Addr) (cap : Nat) (xs : List Pt) : Prop := Sl 2 Pt.cs w a cap xs
def ptBits (ps : List Pt) : List Bool := ps.flatMap fun p => num p.v p.width

def wparts (s : Vl) (v : Nat) : List Pt :=
  if s.has then
    if v ^^^ s.prev = 0 then [⟨0, 1⟩]
    else if inBand s.lead s.width (v ^^^ s.prev) then [⟨2, 2⟩, ⟨(v ^^^ s.prev) >>> (64 - s.lead - s.width), s.width⟩]
    else [⟨3, 2⟩, ⟨aLead (v ^^^ s.prev), 5⟩, ⟨aSize (v ^^^ s.prev) - 1, 6⟩, ⟨(v ^^^ s.prev) >>> tz (v ^^^ s.prev), aSize (v ^^^ s.prev)⟩]
  else [⟨v, 64⟩]
theorem wparts_bits (s : Vl) (v : Nat) : ptBits (wparts s v) = (written s v).1 := by
  unfold wparts written ptBits
  split
  · split
    · rfl
    · split
      · simp only [List.flatMap_cons, List.flatMap_nil, List.append_nil]; rfl
      · simp only [List.flatMap_cons, List.flatMap_nil, List.append_nil, List.append_assoc]; rfl
  · simp
theorem wparts_ok {s : Vl} {v : Nat} (hs : soundV s = true) (hw : s.wf) (hv : v < 18446744073709551616) : ∀ p ∈ wparts s v, p.v < 18446744073709551616 ∧ p.width ≤ 64 := by
  intro p hp
  have hd : v ^^^ s.prev < 18446744073709551616 := Nat.xor_lt_two_pow (n := 64) hv hw.1
  unfold wparts at hp
  cases hh : s.has
  · rw [hh] at hp; simp at hp; subst hp; exact ⟨hv, by simp⟩
  · have h := soundV_has hs hh
    rw [hh] at hp
    simp only [if_true] at hp
    split at hp
    · simp at hp; subst hp; simp
    · rename_i h0
      have := around_le hd h0
      split at hp
      · simp at hp; rcases hp with rfl | rfl
        · simp
        · exact ⟨shr_lt hd, by simp; omega⟩
      · simp at hp; rcases hp with rfl | rfl | rfl | rfl
        · simp
        · simp; omega
        · simp; omega
        · exact ⟨shr_lt hd, by simp; omega⟩

def wrongX (snd sv : Bool) : Nat := if snd then if sv then 0 else 30 else 11
set_option maxHeartbeats 1000000 in
theorem xwrong_any (bs : List Nat) (hbs : ∀ b ∈ bs, b < 256) (hl : bs.length ≤ 1000000) (N : Int) (hN : -9223372036854775808 ≤ N ∧ N ≤ 9223372036854775807) (a : Option Addr) (cap : Nat) (s : Vl) (hs : s.wf) (w : World) (hb : SlB w a cap bs) :
    Calls Tryz.prog 142 #[bv a bs.length cap N, s.v] w (Ret w (.int .u16 (wrongX (soundB bs N) (soundV s) : Nat))) := by
  have H1 := hid (fun W hW => sound_any bs hbs hl N hN a cap W hW)
  have H2 := hid (fun W => xsound_any s hs W)
  cases g1 : soundB bs N
  · rw [g1] at H1
    go_enter Tryz.func142, Tryz.ntmps142
    go_wp2_with (first | (go_at_call 87; (with_reducible refine (H1.out _ (by exact slA hb)).mono ?_); rintro _ _ ⟨⟨e1, rfl⟩, rfl⟩) | (go_at_call 164; (with_reducible refine (H2.out _).mono ?_); rintro _ _ ⟨⟨e2, rfl⟩, rfl⟩))
    go_ret
    exact ⟨ovA, rfl⟩
  · rw [g1] at H1
    cases g2 : soundV s
    · rw [g2] at H2
      go_enter Tryz.func142, Tryz.ntmps142
      go_wp2_with (first | (go_at_call 87; (with_reducible refine (H1.out _ (by exact slA hb)).mono ?_); rintro _ _ ⟨⟨e1, rfl⟩, rfl⟩) | (go_at_call 164; (with_reducible refine (H2.out _).mono ?_); rintro _ _ ⟨⟨e2, rfl⟩, rfl⟩))
      go_ret
      exact ⟨ovA, rfl⟩
    · rw [g2] at H2
      go_enter Tryz.func142, Tryz.ntmps142
      go_wp2_with (first | (go_at_call 87; (with_reducible refine (H1.out _ (by exact slA hb)).mono ?_); rintro _ _ ⟨⟨e1, rfl⟩, rfl⟩) | (go_at_call 164; (with_reducible refine (H2.out _).mono ?_); rintro _ _ ⟨⟨e2, rfl⟩, rfl⟩))
      go_ret
      exact ⟨ovA, rfl⟩

def WrtPost (w : World) (ps : List Pt) (t : Vl) (en : Ending) (w' : World) : Prop := ∃ a c, en = .returned (.tuple #[.slice a ps.length c, t.v]) ∧ (∃ e, w' = over w e) ∧ SlPt w' a c ps ∧ ∀ ad, a = some ad → w.heap.size ≤ ad.block

set_option maxRecDepth 100000 in
set_option maxHeartbeats 2000000 in
theorem write_new (s : Vl) (hs : s.wf) (hh : s.has = false) (v : Nat) (hv : v < 18446744073709551616) (w : World) :
    Calls Tryz.prog 143 #[s.v, .int .u64 (v : Nat)] w (WrtPost w (wparts s v) (written s v).2) := by
  obtain ⟨has, prev, lead, width⟩ := s
  simp only at hh
  subst hh
  obtain ⟨h1, h2, h3⟩ := hs
  simp only at h1 h2 h3
  rw [show wparts ⟨false, prev, lead, width⟩ v = [⟨v, 64⟩] from rfl, show (written ⟨false, prev, lead, width⟩ v).2 = ⟨true, v, 0, 0⟩ from rfl]
  go_enter Tryz.func143, Tryz.ntmps143
  go_wp2
  (try simp only [Exit.inBlock, Exit.then])
  refine bodyPost_ret (v := ?rv6) ?rh6 rfl ?rp6
  case rh6 => (simp only [results, show Tryz.f143.results = #[.tmp 4, .cell 5 119] from rfl]; go_simp; rfl)
  exact ⟨_, _, rfl, ovA, (by (repeat with_reducible refine Sl.drew ?_); refine Sl.lit_as (xs :=  [⟨v, 64⟩]) Pt.cs_len ?_ ?_ ?_ ?_ <;> first | rfl | (simp; done) | (simp [maxLen]; done) | (simp; omega)), (by rintro _ ⟨⟩; simp; try omega)⟩

set_option maxRecDepth 100000 in
set_option maxHeartbeats 2000000 in
theorem write_same (s : Vl) (hs : s.wf) (hh : s.has = true) (hl : s.lead + s.width ≤ 64) (v : Nat) (hv : v < 18446744073709551616) (h0 : v ^^^ s.prev = 0) (w : World) :
    Calls Tryz.prog 143 #[s.v, .int .u64 (v : Nat)] w (WrtPost w (wparts s v) (written s v).2) := by
  obtain ⟨has, prev, lead, width⟩ := s
  simp only at hh
  subst hh
  obtain ⟨h1, h2, h3⟩ := hs
  simp only at h1 h2 h3 hl ⊢
  have hX := xor64 v prev hv h1
  have hd : v ^^^ prev < 18446744073709551616 := Nat.xor_lt_two_pow (n := 64) hv h1
  simp only at h0
  rw [show wparts ⟨true, prev, lead, width⟩ v = [⟨0, 1⟩] by simp [wparts, h0], show (written ⟨true, prev, lead, width⟩ v).2 = ⟨true, v, lead, width⟩ by simp [written, h0]]
  rw [h0] at hX
  have HO := hid (fun W => of_any ⟨true, v, lead, width⟩ ⟨hv, h2, h3⟩ W)
  clear h0 hd
  go_enter Tryz.func143, Tryz.ntmps143
  go_wp2_with (go_at_call 167; (with_reducible refine (HO.out _).mono ?_); rintro _ _ ⟨⟨e1, rfl⟩, rfl⟩)
  refine M2.wp_region_mix [1, 4] 4 (by kernel_rfl) (by kernel_rfl) (by decide) ?_
  simp only [M2.td]
  with_reducible refine M2.mixL_quiet 1 (by kernel_rfl) ?_
  simp only [M2.td]
  repeat (go_big_quiet_step (fail))
  with_reducible refine wpQuiet_nil ?_
  with_reducible refine M2.mixL_eff (by decide) ?_
  go_wp2_with (fail)
  refine M2.MixQ.mk ovA ?_
  with_reducible refine M2.mixL_quiet 2 (by kernel_rfl) ?_
  simp only [M2.td]
  repeat (go_big_quiet_step (fail))
  with_reducible refine wpQuiet_nil ?_
  with_reducible refine M2.mixL_nil ?_
  with_reducible refine M2.mixL_eff (by decide) ?_
  go_wp2_with (fail)
  refine M2.MixQ.mk trivial ?_
  with_reducible refine M2.mixL_nil ?_
  go_wp2
  (try simp only [Exit.inBlock, Exit.then])
  refine bodyPost_ret (v := ?rv7) ?rh7 rfl ?rp7
  case rh7 => (simp only [results, show Tryz.f143.results = #[.tmp 4, .cell 5 119] from rfl]; go_simp; rfl)
  exact ⟨_, _, rfl, ovA, (by (repeat with_reducible refine Sl.drew ?_); refine Sl.lit_as (xs :=  [⟨0, 1⟩]) Pt.cs_len ?_ ?_ ?_ ?_ <;> first | rfl | (simp; done) | (simp [maxLen]; done) | (simp; omega)), (by rintro _ ⟨⟩; simp; try omega)⟩

set_option maxRecDepth 100000 in
set_option maxHeartbeats 2000000 in
theorem write_in (s : Vl) (hs : s.wf) (hh : s.has = true) (hl : s.lead + s.width ≤ 64) (v : Nat) (hv : v < 18446744073709551616) (h0 : v ^^^ s.prev ≠ 0) (hb : inBand s.lead s.width (v ^^^ s.prev) = true) (w : World) (hT : TabW w) :
    Calls Tryz.prog 143 #[s.v, .int .u64 (v : Nat)] w (WrtPost w (wparts s v) (written s v).2) := by
  obtain ⟨has, prev, lead, width⟩ := s
  simp only at hh
  subst hh
  obtain ⟨h1, h2, h3⟩ := hs
  simp only at h1 h2 h3 hl ⊢
  have hX := xor64 v prev hv h1
  have hd : v ^^^ prev < 18446744073709551616 := Nat.xor_lt_two_pow (n := 64) hv h1
  simp only at h0 hb
  rw [show wparts ⟨true, prev, lead, width⟩ v = [⟨2, 2⟩, ⟨(v ^^^ prev) >>> (64 - lead - width), width⟩] by simp [wparts, h0, hb], show (written ⟨true, prev, lead, width⟩ v).2 = ⟨true, v, lead, width⟩ by simp [written, h0, hb]]
  have HO := hid (fun W => of_any ⟨true, v, lead, width⟩ ⟨hv, h2, h3⟩ W)
  have HB := hid (fun W hW => has_any lead width (v ^^^ prev) hd h0 hl W hW)
  rw [hb] at HB
  have HD := hid (fun W => down_any lead width (by omega) (by omega) W)
  generalize hdd : v ^^^ prev = d at *
  have h0' : ((d : Int) == 0) = false := by simp; omega
  have hw64 : width ≤ 64 := by omega
  have hl64 : lead ≤ 64 := by omega
  obtain ⟨D, hD⟩ : ∃ D, d >>> (64 - lead - width) = D := ⟨_, rfl⟩
  have hSh : (d : Int) / (2 : Int) ^ (64 - lead - width) = (D : Int) := by rw [cast_shr, hD]
  rw [hD]
  clear h0 hb hdd hD
  go_enter Tryz.func143, Tryz.ntmps143
  go_wp2_with (first | (go_at_call 167; (with_reducible refine (HO.out _).mono ?_); rintro _ _ ⟨⟨e1, rfl⟩, rfl⟩) | (go_at_call 168; (with_reducible refine (HB.out _ (by exact tabA hT)).mono ?_); rintro _ _ ⟨⟨e2, rfl⟩, rfl⟩))
  refine M2.wp_region_mix [3, 8, 11] 11 (by kernel_rfl) (by kernel_rfl) (by decide) ?_
  simp only [M2.td]
  with_reducible refine M2.mixL_quiet 3 (by kernel_rfl) ?_
  simp only [M2.td]
  repeat (go_big_quiet_step (fail))
  with_reducible refine wpQuiet_nil ?_
  with_reducible refine M2.mixL_eff (by decide) ?_
  go_wp2_with ((go_at_call 169; (with_reducible refine (HD.out _).mono ?_); rintro _ _ ⟨⟨e3, rfl⟩, rfl⟩))
  refine M2.MixQ.mk ovA ?_
  with_reducible refine M2.mixL_quiet 4 (by kernel_rfl) ?_
  simp only [M2.td]
  repeat (go_big_quiet_step (fail))
  with_reducible refine wpQuiet_nil ?_
  with_reducible refine M2.mixL_eff (by decide) ?_
  go_wp2_with (fail)
  refine M2.MixQ.mk ovA ?_
  with_reducible refine M2.mixL_quiet 2 (by kernel_rfl) ?_
  simp only [M2.td]
  repeat (go_big_quiet_step (fail))
  with_reducible refine wpQuiet_nil ?_
  with_reducible refine M2.mixL_nil ?_
  with_reducible refine M2.mixL_eff (by decide) ?_
  go_wp2_with (fail)
  refine M2.MixQ.mk trivial ?_
  with_reducible refine M2.mixL_nil ?_
  go_wp2
  (try simp only [Exit.inBlock, Exit.then])
  refine bodyPost_ret (v := ?rv8) ?rh8 rfl ?rp8
  case rh8 => (simp only [results, show Tryz.f143.results = #[.tmp 4, .cell 5 119] from rfl]; go_simp; rfl)
  exact ⟨_, _, rfl, ovA, (by (repeat with_reducible refine Sl.drew ?_); refine Sl.lit_as (xs :=  [⟨2, 2⟩, ⟨D, width⟩]) Pt.cs_len ?_ ?_ ?_ ?_ <;> first | rfl | (simp; done) | (simp [maxLen]; done) | (simp; omega)), (by rintro _ ⟨⟩; simp; try omega)⟩

set_option maxRecDepth 100000 in
set_option maxHeartbeats 2000000 in
theorem write_anew (s : Vl) (hs : s.wf) (hh : s.has = true) (hl : s.lead + s.width ≤ 64) (v : Nat) (hv : v < 18446744073709551616) (h0 : v ^^^ s.prev ≠ 0) (hb : inBand s.lead s.width (v ^^^ s.prev) = false) (w : World) (hT : TabW w) :
    Calls Tryz.prog 143 #[s.v, .int .u64 (v : Nat)] w (WrtPost w (wparts s v) (written s v).2) := by
  obtain ⟨has, prev, lead, width⟩ := s
  simp only at hh
  subst hh
  obtain ⟨h1, h2, h3⟩ := hs
  simp only at h1 h2 h3 hl ⊢
  have hX := xor64 v prev hv h1
  have hd : v ^^^ prev < 18446744073709551616 := Nat.xor_lt_two_pow (n := 64) hv h1
  simp only at h0 hb
  rw [show wparts ⟨true, prev, lead, width⟩ v = [⟨3, 2⟩, ⟨aLead (v ^^^ prev), 5⟩, ⟨aSize (v ^^^ prev) - 1, 6⟩, ⟨(v ^^^ prev) >>> tz (v ^^^ prev), aSize (v ^^^ prev)⟩] by simp [wparts, h0, hb], show (written ⟨true, prev, lead, width⟩ v).2 = ⟨true, v, aLead (v ^^^ prev), aSize (v ^^^ prev)⟩ by simp [written, h0, hb]]
  have HO := hid (fun W => of_any ⟨true, v, lead, width⟩ ⟨hv, h2, h3⟩ W)
  have HB := hid (fun W hW => has_any lead width (v ^^^ prev) hd h0 hl W hW)
  rw [hb] at HB
  have HA := hid (fun W hW => around_any (v ^^^ prev) hd h0 W hW)
  have hA := around_le hd h0
  generalize hdd : v ^^^ prev = d at *
  have h0' : ((d : Int) == 0) = false := by simp; omega
  obtain ⟨L, hL⟩ : ∃ L, aLead d = L := ⟨_, rfl⟩
  obtain ⟨S, hS⟩ : ∃ S, aSize d = S := ⟨_, rfl⟩
  obtain ⟨D, hD⟩ : ∃ D, d >>> tz d = D := ⟨_, rfl⟩
  rw [hL, hS] at HA
  rw [hL, hS] at hA ⊢
  rw [hD]
  obtain ⟨a1, a2, a3, a4, a5, a6, a7⟩ := hA
  have hSh : (d : Int) / (2 : Int) ^ (64 - L - S) = (D : Int) := by rw [cast_shr, a6, hD]
  have HD := hid (fun W => down_any L S (by omega) (by omega) W)
  obtain ⟨R, hR⟩ : ∃ R, S - 1 = R := ⟨_, rfl⟩
  have hSm : (S : Int) - 1 = (R : Int) := by omega
  rw [hR]
  clear h0 hb hdd hD hL hS a2 a6 a7
  have hRl : R ≤ 63 := by omega
  clear hR
  go_enter Tryz.func143, Tryz.ntmps143
  go_wp2_with (first | (go_at_call 167; (with_reducible refine (HO.out _).mono ?_); rintro _ _ ⟨⟨e1, rfl⟩, rfl⟩) | (go_at_call 168; (with_reducible refine (HB.out _ (by exact tabA hT)).mono ?_); rintro _ _ ⟨⟨e2, rfl⟩, rfl⟩) | (go_at_call 170; (with_reducible refine (HA.out _ (by exact tabA hT)).mono ?_); rintro _ _ ⟨⟨e3, rfl⟩, rfl⟩))
  obtain ⟨F, hF⟩ : ∃ F, F = [w.heap.size] := ⟨_, rfl⟩
  have n1 : w.heap.size ∈ F := by rw [hF]; simp
  have n2 : w.heap.size + 1 + 1 + e1.heap.size ∉ F := by rw [hF]; simp; omega
  clear hF
  refine M2.wp_region_mixZ (fun w' => ∃ m : Mut, w' = chg F _ m) [7, 9] 10 (by kernel_rfl) (by kernel_rfl) (by decide) (chg_of (Chg.refl _ _)) ?_
  simp only [M2.td]
  with_reducible refine M2.mixL_quiet 7 (by kernel_rfl) ?_
  simp only [M2.td]
  repeat (go_big_quiet_step (fail))
  with_reducible refine wpQuiet_nil ?_
  with_reducible refine M2.mixL_eff (by decide) ?_
  go_wp2_with (fail)
  refine M2.MixQ.mk (chg_of (by exact chA)) ?_
  with_reducible refine M2.mixL_quiet 1 (by kernel_rfl) ?_
  simp only [M2.td]
  repeat (go_big_quiet_step (fail))
  with_reducible refine wpQuiet_nil ?_
  with_reducible refine M2.mixL_eff (by decide) ?_
  go_wp2_with (fail)
  refine M2.MixQ.mk (chg_of (by exact chA)) ?_
  with_reducible refine M2.mixL_nil ?_
  with_reducible refine M2.mixL_nil ?_
  go_wp2
  refine M2.wp_region_mix [12, 17, 20] 20 (by kernel_rfl) (by kernel_rfl) (by decide) ?_
  simp only [M2.td]
  with_reducible refine M2.mixL_quiet 12 (by kernel_rfl) ?_
  simp only [M2.td]
  repeat (go_big_quiet_step (fail))
  with_reducible refine wpQuiet_nil ?_
  with_reducible refine M2.mixL_eff (by decide) ?_
  go_wp2_with ((go_at_call 169; (with_reducible refine (HD.out _).mono ?_); rintro _ _ ⟨⟨e4, rfl⟩, rfl⟩))
  refine M2.MixQ.mk ovA ?_
  with_reducible refine M2.mixL_quiet 4 (by kernel_rfl) ?_
  simp only [M2.td]
  repeat (go_big_quiet_step (fail))
  with_reducible refine wpQuiet_nil ?_
  with_reducible refine M2.mixL_eff (by decide) ?_
  go_wp2_with (fail)
  refine M2.MixQ.mk ovA ?_
  with_reducible refine M2.mixL_quiet 2 (by kernel_rfl) ?_
  simp only [M2.td]
  repeat (go_big_quiet_step (fail))
  with_reducible refine wpQuiet_nil ?_
  with_reducible refine M2.mixL_nil ?_
  with_reducible refine M2.mixL_eff (by decide) ?_
  go_wp2_with (fail)
  refine M2.MixQ.mk trivial ?_
  with_reducible refine M2.mixL_nil ?_
  go_wp2
  (try simp only [Exit.inBlock, Exit.then])
  refine bodyPost_ret (v := ?rv9) ?rh9 rfl ?rp9
  case rh9 => (simp only [results, show Tryz.f143.results = #[.tmp 4, .cell 5 119] from rfl]; go_simp; rfl)
  exact ⟨_, _, rfl, ovA, (by (repeat with_reducible refine Sl.drew ?_); refine Sl.lit_as (xs :=  [⟨3, 2⟩, ⟨L, 5⟩, ⟨R, 6⟩, ⟨D, S⟩]) Pt.cs_len ?_ ?_ ?_ ?_ <;> first | rfl | (simp; done) | (simp [maxLen]; done) | (simp; omega)), (by rintro _ ⟨⟩; simp; try omega)⟩
end
section
open Go.RowKit

theorem write_any (s : Vl) (hs : s.wf) (hsd : soundV s = true) (v : Nat) (hv : v < 18446744073709551616) (w : World) (hT : TabW w) :
    Calls Tryz.prog 143 #[s.v, .int .u64 (v : Nat)] w (WrtPost w (wparts s v) (written s v).2) := by
  cases hh : s.has
  · exact write_new s hs hh v hv w
  · have hl := (soundV_has hsd hh).2.1
    by_cases h0 : v ^^^ s.prev = 0
    · exact write_same s hs hh hl v hv h0 w
    · cases hb : inBand s.lead s.width (v ^^^ s.prev)
      · exact write_anew s hs hh hl v hv h0 hb w hT
      · exact write_in s hs hh hl v hv h0 hb w hT

abbrev xpV (a : Option Addr) (n cap : Nat) (N : Int) (t : Vl) (e : Nat) : Value := .tuple #[bv a n cap N, t.v, .int .u16 (e : Nat)]

def BitsIn (l0 : List Bool) (w : World) (n : Nat) (wr : World) (a : Option Addr) (c : Nat) (L : List Bool) : Prop := (SlB w a c (pack L) ∧ L = l0) ∨ OwnB n wr (.slice a (pack L).length c) (pack L)
theorem BitsIn.sl {l0 : List Bool} {w wr : World} {n : Nat} {a : Option Addr} {c : Nat} {L : List Bool} (h : BitsIn l0 w n wr a c L) (ho : ∃ e, wr = over w e) : SlB wr a c (pack L) := by
  rcases h with h | h
  · obtain ⟨e, rfl⟩ := ho; exact h.1.over e
  · exact (Own.slice' bcs_len h).2
theorem BitsIn.own {l0 : List Bool} {w wr : World} {n : Nat} {a : Option Addr} {c : Nat} {L : List Bool} (h : BitsIn l0 w n wr a c L) (hl : L ≠ l0) : OwnB n wr (.slice a (pack L).length c) (pack L) := by
  rcases h with h | h
  · exact absurd h.2 hl
  · exact h
def XpRel (l0 : List Bool) (w : World) (s : Vl) (ps : List Pt) (a2 : Option Addr) (c2 : Nat) (L : List Bool) (wr : World) : Prop :=
  ∃ a c, (∃ e, wr = over ((((w.alloc (.cells #[.slice a (pack L).length c, .int .i64 (L.length : Nat)] 46)).alloc (.cells #[.bool s.has, .int .u64 (s.prev : Nat), .int .u8 (s.lead : Nat), .int .u8 (s.width : Nat)] 119)).alloc (.cells #[.slice none 0 0, .int .i64 0] 46)).alloc (.cells #[.bool false, .int .u64 0, .int .u8 0, .int .u8 0] 119)) e) ∧ BitsIn l0 w (w.heap.size + 1 + 1 + 1 + 1) wr a c L ∧ SlPt wr a2 c2 ps ∧ ∀ ad, a2 = some ad → w.heap.size + 1 + 1 + 1 + 1 ≤ ad.block

def XpPost (w : World) (L : List Bool) (t : Vl) (en : Ending) (w' : World) : Prop :=
  ∃ a c, en = .returned (xpV a (pack L).length c L.length t 0) ∧ (∃ e, w' = over w e) ∧ SlB w' a c (pack L)
def XpOwn (w : World) (L : List Bool) (t : Vl) (en : Ending) (w' : World) : Prop :=
  ∃ a c, en = .returned (xpV a (pack L).length c L.length t 0) ∧ (∃ e, w' = over w e) ∧ OwnB w.heap.size w' (.slice a (pack L).length c) (pack L)
theorem XpOwn.post {w w' : World} {L : List Bool} {t : Vl} {en : Ending} (h : XpOwn w L t en w') : XpPost w L t en w' := by
  obtain ⟨a, c, h1, h2, h3⟩ := h
  exact ⟨a, c, h1, h2, (Own.slice' bcs_len h3).2⟩

theorem ptBits_take {ps : List Pt} {k : Nat} (h : k < ps.length) : ptBits (ps.take (k + 1)) = ptBits (ps.take k) ++ num ps[k].v ps[k].width := by
  rw [← take_succ_get h]; unfold ptBits; rw [List.flatMap_append]; simp
theorem ptBits_le {ps : List Pt} (h : ∀ p ∈ ps, p.width ≤ 64) : (ptBits ps).length ≤ 64 * ps.length := by
  induction ps with
  | nil => simp [ptBits]
  | cons p ps ih =>
    have h1 := ih fun q hq => h q (by simp [hq])
    have h2 := h p (by simp)
    simp only [ptBits, List.flatMap_cons, List.length_append, num_length, List.length_cons] at *
    omega
theorem SlPt.at_ {w : World} {a : Option Addr} {cap : Nat} {xs : List Pt} (h : SlPt w a cap xs) {k : Nat} (hk : k < xs.length) :
    ∃ b off, a = some ⟨b, off, none⟩ ∧ b < w.heap.size ∧ w.cell? ⟨b, off + k * 2, none⟩ = some (.int .u64 (xs[k].v : Nat)) ∧ w.cell? ⟨b, off + k * 2 + 1, none⟩ = some (.int .i64 (xs[k].width : Nat)) := by
  obtain ⟨b, off, rfl, hb, hcell⟩ := h.rec_ k xs[k] (List.getElem?_eq_getElem hk)
  exact ⟨b, off, rfl, hb, hcell 0 _ rfl, hcell 1 _ rfl⟩

set_option maxRecDepth 100000 in
set_option maxHeartbeats 4000000 in
theorem xput_own (l : List Bool) (hl : l.length ≤ 800000) (a : Option Addr) (cap : Nat) (s : Vl) (hs : s.wf) (hsd : soundV s = true) (v : Nat) (hv : v < 18446744073709551616) (w : World) (hb : SlB w a cap (pack l)) (hT : TabW w) :
    Calls Tryz.prog 118 #[bv a (pack l).length cap l.length, s.v, .int .u64 (v : Nat)] w (XpOwn w (l ++ (written s v).1) (written s v).2) := by
  have HW := hid (fun W hW => xwrong_any (pack l) pack_lt (pack_len_le (by omega)) l.length (by omega) a cap s hs W hW)
  rw [sound_pack, hsd, show wrongX true true = 0 from rfl] at HW
  have HR := hid (fun W hW => write_any s hs hsd v hv W hW)
  have hok := wparts_ok hsd hs hv
  have hne := (written_len hsd hs hv).2
  rw [← wparts_bits] at hne
  rw [← wparts_bits]
  have hpl : (wparts s v).length ≤ 4 := by unfold wparts; repeat' split
                                           all_goals simp
  generalize wparts s v = ps at *
  generalize (written s v).2 = t at *
  have HOK := hid hok
  clear hok
  obtain ⟨hs1, hs2, hs3⟩ := hs
  go_enter Tryz.func118, Tryz.ntmps118
  go_wp2_with (first | (go_at_call 142; (with_reducible refine (HW.out _ (by exact slA hb)).mono ?_); rintro _ _ ⟨⟨e1, rfl⟩, rfl⟩) | (go_at_call 143; (with_reducible refine (HR.out _ (by exact tabA hT)).mono ?_); rintro _ _ ⟨a2, c2, rfl, ⟨e2, rfl⟩, hp2, hn2⟩; have HP := hid hp2; have HN := hid hn2; clear hp2 hn2))
  go_loopw [29] (fun i wr => ∃ (k : Nat), k ≤ ps.length ∧ i = .int .i64 k ∧ XpRel l w t ps a2 c2 (l ++ ptBits (ps.take k)) wr) (fun i _ => ps.length - (intOf i).toNat)
  case atStart =>
    refine ⟨0, Nat.zero_le _, rfl, ?_⟩
    rw [List.take_zero, show ptBits [] = [] from rfl, List.append_nil]
    refine ⟨a, cap, ovA, .inl ⟨hb, rfl⟩, Sl.chg (F := [w.heap.size + 1]) HP.out (by exact chA) (fun ad h hm => by have := HN.out ad h; simp at this hm; omega), fun ad h => by have := HN.out ad h; simp at this; omega⟩
  case round =>
    obtain ⟨k, hk, rfl, a5, c5, ⟨e5, rfl⟩, hb5, hp5, hn5⟩ := hrel
    have HN5 := hid hn5
    clear hn5
    by_cases hlt : k < ps.length
    · obtain ⟨b6, o6, rfl, hb6, k0, k1⟩ := hp5.at_ hlt
      have hw := HOK.out ps[k] (List.getElem_mem hlt)
      have hT5 := ptBits_take hlt
      obtain ⟨L, hL⟩ : ∃ L, l ++ ptBits (ps.take k) = L := ⟨_, rfl⟩
      have hLl : L.length ≤ 900000 := by
        rw [← hL, List.length_append]
        have := ptBits_le (ps := ps.take k) (fun q hq => (HOK.out q (List.mem_of_mem_take hq)).2)
        rw [List.length_take] at this; omega
      rw [hL] at hb5 hp5 hb6 k0 k1 ⊢
      generalize hpk : ps[k] = pk at *
      obtain ⟨pv, pw⟩ := pk
      simp only at hw k0 k1 hT5
      obtain ⟨hw1, hw2⟩ := hw
      have HT5 := hid hT5
      have HL := hid hL
      have hs5 := hb5.sl ovA
      obtain ⟨L', hL'⟩ : ∃ L', L ++ num pv pw = L' := ⟨_, rfl⟩
      have HB := hid (fun W hW => bput_any L hLl pv pw hw1 hw2 a5 c5 W hW)
      rw [hL'] at HB
      have HL' := hid hL'
      clear hL'
      have HB5 := hid hb5
      clear hT5 hL hpk hb5
      go_wp2_with (go_at_call 116; (with_reducible refine (HB.out _ (by exact slA hs5)).mono ?_); rintro _ _ ⟨a7, c7, rfl, ⟨e7, rfl⟩, ho7⟩; have HO := hid ho7; clear ho7)
      go_roundw
      case rel =>
        have e8 : L' = l ++ ptBits (ps.take (k + 1)) := by rw [← HL'.out, HT5.out, ← HL.out, List.append_assoc]
        have ho := HO.out
        refine ⟨k + 1, by omega, by go_num, ?_⟩
        rw [← e8]
        refine ⟨a7, c7, ovA, .inr ?_, Sl.chg (F := [w.heap.size]) hp5 (by exact chA) (fun ad h hm => by have := HN5.out ad h; simp at hm; omega), HN5.out⟩
        exact Own.mono (Own.over_swap ho (by simp) (Nat.le_refl _)) (by simp; omega)
      case measure => simp [intOf]; omega
    · obtain rfl : k = ps.length := by omega
      rw [List.take_length] at *
      obtain ⟨L, hL⟩ : ∃ L, l ++ ptBits ps = L := ⟨_, rfl⟩
      rw [hL] at hb5 ⊢
      have HL := hid hL
      clear hL
      go_wp2
      obtain ⟨F, hF⟩ : ∃ F, F = [w.heap.size + 1 + 1, w.heap.size + 1 + 1 + 1] := ⟨_, rfl⟩
      have n1 : w.heap.size + 1 + 1 ∈ F := by rw [hF]; simp
      have n2 : w.heap.size + 1 + 1 + 1 ∈ F := by rw [hF]; simp
      have n3 : w.heap.size ∉ F := by rw [hF]; simp; omega
      have n4 : w.heap.size + 1 ∉ F := by rw [hF]; simp
      clear hF
      refine M2.wp_region_mixZ (fun w' => ∃ m : Mut, w' = chg F _ m) [2, 3] 5 (by kernel_rfl) (by kernel_rfl) (by decide) (chg_of (Chg.refl _ _)) ?_
      simp only [M2.td]
      with_reducible refine M2.mixL_quiet 2 (by kernel_rfl) ?_
      simp only [M2.td]
      repeat (go_big_quiet_step (fail))
      with_reducible refine wpQuiet_nil ?_
      with_reducible refine M2.mixL_eff (by decide) ?_
      go_wp2_with (fail)
      refine M2.MixQ.mk (chg_of (by exact chA)) ?_
      with_reducible refine M2.mixL_eff (by decide) ?_
      go_wp2_with (fail)
      refine M2.MixQ.mk (chg_of (by exact chA)) ?_
      with_reducible refine M2.mixL_quiet 1 (by kernel_rfl) ?_
      simp only [M2.td]
      repeat (go_big_quiet_step (fail))
      with_reducible refine wpQuiet_nil ?_
      with_reducible refine M2.mixL_nil ?_
      with_reducible refine M2.mixL_nil ?_
      go_wp2
      (try simp only [Exit.inBlock, Exit.then])
      refine bodyPost_ret (v := ?rv14) ?rh14 rfl ?rp14
      case rh14 => (simp only [results, show Tryz.f118.results = #[.cell 6 46, .cell 7 119, .tmp 8] from rfl]; go_simp; rfl)
      rw [HL.out]
      refine ⟨a5, c5, rfl, ovA, ?_⟩
      have hne2 : L ≠ l := by
        intro h
        have := congrArg List.length HL.out
        rw [h, List.length_append] at this
        omega
      have ho := hb5.own hne2
      (repeat with_reducible refine Own.drew ?_)
      exact Own.mono (Own.over_swap ho (by exact szA) (by exact szA)) (by exact szA)
end
end Go.Proofs.YtnihngljmmbenaaGreatDoor
