import Derived.Test.YtnihngljmmbenaaGreatDoorHD
namespace Go.Proofs.YtnihngljmmbenaaGreatDoor
set_option linter.unusedVariables false
set_option linter.unusedSimpArgs false
open Go.RowKit
attribute [local go_sem] over_drew chg_drew
attribute [local go_sem high] place_eql place_neq

theorem Blk.setCells_ {p : Nat} {t : TypeId} : ∀ (vs : List Value) (o : Nat) (w : World) (cs : List Value), Blk w p cs t → o + vs.length ≤ cs.length → Blk (w.setCells p o vs) p (putAt cs o vs) t
  | [], o, w, cs, h, _ => by rw [putAt_nil]; exact h
  | v :: r, o, w, cs, h, hl => by
    simp only [List.length_cons] at hl
    rw [putAt_cons _ _ _ _ (by omega)]
    exact Blk.setCells_ r (o + 1) _ _ (h.set o v) (by simp only [List.length_set]; omega)
theorem Blk.full {w : World} {p : Nat} {t : TypeId} {cs : List Value} (h : Blk w p cs t) (vs : List Value) (hl : vs.length = cs.length) : Blk (w.setCells p 0 vs) p vs t := by
  have k := Blk.setCells_ vs 0 w cs h (by omega)
  rw [show putAt cs 0 vs = vs by unfold putAt; rw [List.take_zero, Nat.zero_add, hl, List.drop_length]; simp] at k
  exact k
theorem Blk.off {w : World} {p q : Nat} {t : TypeId} {cs : List Value} (h : Blk w p cs t) (hq : p ≠ q) : ∀ (vs : List Value) (o : Nat), Blk (w.setCells q o vs) p cs t
  | [], _ => h
  | v :: r, o => Blk.off (Blk.set_ne h hq v) hq r (o + 1)
set_option maxRecDepth 100000 in
set_option maxHeartbeats 4000000 in
theorem cut_fin {base : Nat} {w : World} {b n sz mb : Nat} {L : List Se} (h : BkAt base w b n sz mb L) (id : Nat) {p : Pl} {c : List Sm} {cl : Bool} (hh : (getS (bkOf L) id).has p c cl) (hcl : (getS (bkOf L) id).cl.length ≤ 900) (hp : p = (getS (bkOf L) id).fin) (most : Int) :
    Calls Tryz.prog 17 #[.pointer (some ⟨b, 0, none⟩), .int .u32 (id : Nat), p.v, .int .i64 most] w (CutPost w Fr.zero p) := by
  have HA := hid (fun W (hW : ∃ e, W = over w e) => bkAt_any (w := W) (by obtain ⟨e, rfl⟩ := hW; exact h.on e) id)
  have HSum := hid (fun W (hW : ∃ e, W = over w e) => sum_any (w := W) (by obtain ⟨e, rfl⟩ := hW; exact h.on e) id hh hcl)
  have hok := getS_ok h id
  obtain ⟨s, hs0⟩ : ∃ s, getS (bkOf L) id = s := ⟨_, rfl⟩
  rw [hs0] at hh hcl HA hok hp
  have HH := hid hh
  have HC := hid hcl
  have HOK := hid hok
  obtain ⟨⟨fc, fb, fn⟩, hfin⟩ : ∃ f, s.fin = f := ⟨_, rfl⟩
  rw [hfin] at hp
  have HFin := hid hfin
  obtain ⟨pc, pb, pn⟩ := p
  simp only [Pl.mk.injEq] at hp
  obtain ⟨rfl, rfl, rfl⟩ := hp
  simp only [Pl.v] at *
  clear hs0 hh h hok hfin
  go_enter Tryz.func17, Tryz.ntmps17
  go_wp2_with (first
    | (go_at_call 46
       (with_reducible refine (HA.out _ ovA).mono ?_)
       rintro _ w1 ⟨x, rfl, ⟨e1, hw1⟩, hs, hxs⟩
       have O1 : Hid (∃ e, w1 = over w e) := hid (by rw [hw1]; exact ovA)
       have B1 : Hid (Blk w1 w.heap.size [.int .u32 (pc : Nat), .int .u32 (pb : Nat), .int .u32 (pn : Nat)] 42) := hid (by rw [hw1]; repeat (first | exact Blk.new' (by simp) | with_reducible refine Blk.on ?_ _ | with_reducible refine Blk.alloc ?_ _))
       have B8 : Hid (Blk w1 (w.heap.size + 1) [.int .u8 0, .int .u32 0, .int .u32 0, .int .u32 0, .int .u32 0, .int .u32 0, .int .u32 0, .bool false, .int .u64 0, .slice none 0 0, .int .i64 0] 48) := hid (by rw [hw1]; repeat (first | exact Blk.new' (by simp) | with_reducible refine Blk.on ?_ _ | with_reducible refine Blk.alloc ?_ _))
       have B9 : Hid (Blk w1 (w.heap.size + 1 + 1) [.int .u32 0, .int .u32 0, .int .u32 0] 42) := hid (by rw [hw1]; repeat (first | exact Blk.new' (by simp) | with_reducible refine Blk.on ?_ _ | with_reducible refine Blk.alloc ?_ _))
       have hsz1 : w.heap.size + 1 + 1 + 1 ≤ w1.heap.size := by rw [hw1]; simp
       clear hw1
       obtain ⟨g, cap, m, ho⟩ := hs.open_
       rw [← hxs] at HH
       have HP := hid (fun W (hW : ∃ e, W = over w1 e) => part_any (w := W) (hs.ov hW) (ho.ov hW) (by rw [← ho.hc, hxs]; omega) HH.out)
       have HE := hid (fun W (hW : ∃ e, W = over w1 e) => end_any (w := W) (hs.ov hW) (ho.ov hW) (by rw [← ho.hc, hxs]; omega))
       rw [hxs, HFin.out] at HE
       simp only [Pl.v] at HP HE
       obtain ⟨q, hq⟩ := HH.out.open_ hs ho
       have HQ := hid hq
       have HX := hid hxs
       have b0 := B1.out.cell 0 rfl
       have b1 := B1.out.cell 1 rfl
       have b2 := B1.out.cell 2 rfl
       have lb := B1.out.lt
       have hg := ho.lt
       have hm : s.cl.length = m := by rw [← hxs]; exact ho.hc
       rw [hm] at hcl
       clear hs ho hxs hm hq
       skip)
    | (go_at_call 47; (with_reducible refine (HP.out _ ovA).mono ?_); rintro _ _ ⟨⟨e2, rfl⟩, rfl⟩))
  refine M2.wp_region_mix [2] 5 (by kernel_rfl) (by kernel_rfl) (by decide) ?_
  simp only [M2.td]
  with_reducible refine M2.mixL_quiet 2 (by kernel_rfl) ?_
  simp only [M2.td]
  repeat (go_big_quiet_step (fail))
  with_reducible refine wpQuiet_nil ?_
  with_reducible refine M2.mixL_eff (by decide) ?_
  go_wp2_with ((go_at_call 48; (with_reducible refine (HE.out _ ovA).mono ?_); rintro _ _ ⟨⟨e3, rfl⟩, rfl⟩))
  refine M2.MixQ.mk ovA ?_
  with_reducible refine M2.mixL_quiet 2 (by kernel_rfl) ?_
  simp only [M2.td]
  repeat (go_big_quiet_step (fail))
  with_reducible refine wpQuiet_nil ?_
  with_reducible refine M2.mixL_nil ?_
  with_reducible refine M2.mixL_nil ?_
  go_wp2
  have c80 := B8.out.cell 0 rfl
  have c81 := B8.out.cell 1 rfl
  have c82 := B8.out.cell 2 rfl
  have c83 := B8.out.cell 3 rfl
  have c84 := B8.out.cell 4 rfl
  have c85 := B8.out.cell 5 rfl
  have c86 := B8.out.cell 6 rfl
  have c87 := B8.out.cell 7 rfl
  have c88 := B8.out.cell 8 rfl
  have c89 := B8.out.cell 9 rfl
  have c8a := B8.out.cell 10 rfl
  have c90 := B9.out.cell 0 rfl
  have c91 := B9.out.cell 1 rfl
  have c92 := B9.out.cell 2 rfl
  have f8 : ∀ j, _ := fun j => B8.out.free j
  have f9 : ∀ j, _ := fun j => B9.out.free j
  have l8 := B8.out.lt
  have l9 := B9.out.lt
  obtain ⟨F, hF⟩ : ∃ F, F = [w.heap.size + 1, w.heap.size + 1 + 1] := ⟨_, rfl⟩
  have n1 : w.heap.size + 1 ∈ F := by rw [hF]; simp
  have n2 : w.heap.size + 1 + 1 ∈ F := by rw [hF]; simp
  have n3 : w.heap.size ∉ F := by rw [hF]; simp <;> omega
  clear hF
  refine M2.wp_region_mixZ (fun w' => ∃ m : Mut, w' = chg F _ m) [2, 3] 5 (by kernel_rfl) (by kernel_rfl) (by decide) (chg_of (Chg.refl _ _)) ?_
  simp only [M2.td]
  with_reducible refine M2.mixL_quiet 2 (by kernel_rfl) ?_
  simp only [M2.td]
  repeat (go_big_quiet_step (fail))
  with_reducible refine wpQuiet_nil ?_
  with_reducible refine M2.mixL_eff (by decide) ?_
  go_wp2_with (fail)
  refine M2.MixQ.mk (chg_of (by exact chA)) ?_
  with_reducible refine M2.mixL_eff (by decide) ?_
  go_wp2_with (fail)
  refine M2.MixQ.mk (chg_of (by exact chA)) ?_
  with_reducible refine M2.mixL_quiet 1 (by kernel_rfl) ?_
  simp only [M2.td]
  repeat (go_big_quiet_step (fail))
  with_reducible refine wpQuiet_nil ?_
  with_reducible refine M2.mixL_nil ?_
  with_reducible refine M2.mixL_nil ?_
  go_wp2
  refine gen_w ?_
  intro W9 hW9
  have O9 : Hid (∃ e, W9 = over w e) := hid (by rw [hW9]; exact Chg.ov (F := [w.heap.size + 1, w.heap.size + 1 + 1]) O1.out (by exact chA) (by simp; omega))
  have D8 : Hid (Blk W9 (w.heap.size + 1) [.int .u8 0, .int .u32 0, .int .u32 0, .int .u32 0, .int .u32 0, .int .u32 0, .int .u32 0, .bool false, .int .u64 0, .slice none 0 0, .int .i64 0] 48) := hid (by rw [hW9]; refine Blk.drew (Blk.on (Blk.on ?_ _) _); exact Blk.off (Blk.full B8.out [.int .u8 0, .int .u32 0, .int .u32 0, .int .u32 0, .int .u32 0, .int .u32 0, .int .u32 0, .bool false, .int .u64 0, .slice none 0 0, .int .i64 0] rfl) (by omega) [.int .u32 (pc : Nat), .int .u32 (pb : Nat), .int .u32 (pn : Nat)] 0)
  have D9 : Hid (Blk W9 (w.heap.size + 1 + 1) [.int .u32 (pc : Nat), .int .u32 (pb : Nat), .int .u32 (pn : Nat)] 42) := hid (by rw [hW9]; refine Blk.drew (Blk.on (Blk.on ?_ _) _); exact Blk.full (Blk.off B9.out (by omega) [.int .u8 0, .int .u32 0, .int .u32 0, .int .u32 0, .int .u32 0, .int .u32 0, .int .u32 0, .bool false, .int .u64 0, .slice none 0 0, .int .i64 0] 0) [.int .u32 (pc : Nat), .int .u32 (pb : Nat), .int .u32 (pn : Nat)] rfl)
  clear hW9 c80 c81 c82 c83 c84 c85 c86 c87 c88 c89 c8a c90 c91 c92 f8 f9 l8 l9
  have e80 := D8.out.cell 0 rfl
  have e81 := D8.out.cell 1 rfl
  have e82 := D8.out.cell 2 rfl
  have e83 := D8.out.cell 3 rfl
  have e84 := D8.out.cell 4 rfl
  have e85 := D8.out.cell 5 rfl
  have e86 := D8.out.cell 6 rfl
  have e87 := D8.out.cell 7 rfl
  have e88 := D8.out.cell 8 rfl
  have e89 := D8.out.cell 9 rfl
  have e8a := D8.out.cell 10 rfl
  have e90 := D9.out.cell 0 rfl
  have e91 := D9.out.cell 1 rfl
  have e92 := D9.out.cell 2 rfl
  (try simp only [Exit.inBlock, Exit.then])
  refine bodyPost_ret (v := ?rv63) ?rh63 rfl ?rp63
  case rh63 => (simp only [results, show Tryz.f17.results = #[.cell 8 48, .cell 9 42, .tmp 10] from rfl]; go_simp; rfl)
  refine ⟨none, 0, ?_, O9.out, ?_⟩
  · simp only [Fr.zero, Fr.v, Pl.zero, Pl.v, pack_nil]; rfl
  · show OwnB _ _ (.slice none (pack []).length 0) (pack [])
    rw [pack_nil]; exact Own.nil _
set_option maxRecDepth 100000 in
set_option maxHeartbeats 4000000 in
theorem cut_on {base : Nat} {w : World} {b n sz mb : Nat} {L : List Se} (h : BkAt base w b n sz mb L) (id : Nat) {p : Pl} {c : List Sm} {cl : Bool} (hh : (getS (bkOf L) id).has p c cl) (hcl : (getS (bkOf L) id).cl.length ≤ 900) (hp : p ≠ (getS (bkOf L) id).fin) (most : Int) (hmo : -9223372036854775808 ≤ most ∧ most ≤ 9223372036854775807) :
    Calls Tryz.prog 17 #[.pointer (some ⟨b, 0, none⟩), .int .u32 (id : Nat), p.v, .int .i64 most] w (CutPost w (cutF id c cl p most) (cutPl c cl p most)) := by
  have HA := hid (fun W (hW : ∃ e, W = over w e) => bkAt_any (w := W) (by obtain ⟨e, rfl⟩ := hW; exact h.on e) id)
  have HSum := hid (fun W (hW : ∃ e, W = over w e) => sum_any (w := W) (by obtain ⟨e, rfl⟩ := hW; exact h.on e) id hh hcl)
  have hok := getS_ok h id
  obtain ⟨s, hs0⟩ : ∃ s, getS (bkOf L) id = s := ⟨_, rfl⟩
  rw [hs0] at hh hcl HA hok hp
  have HH := hid hh
  have HC := hid hcl
  have HOK := hid hok
  obtain ⟨⟨fc, fb, fn⟩, hfin⟩ : ∃ f, s.fin = f := ⟨_, rfl⟩
  rw [hfin] at hp
  have HFin := hid hfin
  obtain ⟨pc, pb, pn⟩ := p
  have hne : ¬ (pc = fc ∧ pb = fb ∧ pn = fn) := fun hx => hp (by rw [hx.1, hx.2.1, hx.2.2])
  have hne2 : ((pc : Int) == fc && (pb : Int) == fb && (pn : Int) == fn) = false := by rw [← Bool.not_eq_true, Bool.and_eq_true, Bool.and_eq_true, beq_iff_eq, beq_iff_eq, beq_iff_eq]; omega
  have hne3 : (pc == fc && pb == fb && pn == fn) = false := by rw [← Bool.not_eq_true, Bool.and_eq_true, Bool.and_eq_true, beq_iff_eq, beq_iff_eq, beq_iff_eq]; omega
  have hpn : pn < c.length := has_lt hh (by rw [hfin]; exact hp)
  simp only [Pl.v] at *
  clear hs0 h hok hfin hp
  obtain ⟨l, hl⟩ : ∃ l, c.length = l := ⟨_, rfl⟩
  obtain ⟨N, hN⟩ : ∃ N, cutN c ⟨pc, pb, pn⟩ most = N := ⟨_, rfl⟩
  have hNl := cutN_le (p := ⟨pc, pb, pn⟩) most (show (⟨pc, pb, pn⟩ : Pl).count < c.length from hpn)
  rw [hN] at hNl
  simp only at hNl
  obtain ⟨BN, hBN⟩ : ∃ BN, blen c N = BN := ⟨_, rfl⟩
  have HOKC := hid (hh.ok HOK.out)
  have hBNl : BN ≤ 3504 := by rw [← hBN]; exact blen_le HOKC.out N
  have hpb : pb ≤ BN := by have := blen_mono c (show pn ≤ N by omega); rw [hh.2.2.2, hBN] at this; exact this
  have hLC := blen_top c N
  rw [hBN] at hLC
  have HLE : Hid (∀ k, k < l → blen c (k + 1) ≤ 3504) := hid (fun k _ => blen_le HOKC.out _)
  have HCx := hid (fun W a cap (h1 : SlB W a cap (pack (bitsC En.zero c))) => cut_to (bitsC En.zero c) (by have := blen_le HOKC.out c.length; rw [← blen_all] at this; omega) hpb hLC a cap W h1)
  have HFr : Hid (cutF id c cl ⟨pc, pb, pn⟩ most = ⟨id, ⟨pc, pb, pn⟩, N, cl && decide (N = l), sumP c pn, ((bitsC En.zero c).drop pb).take (BN - pb)⟩) := hid (by unfold cutF; rw [hN, hBN, hl])
  have HPl : Hid (cutPl c cl ⟨pc, pb, pn⟩ most = if cl = true ∧ N = l then ⟨pc + 1, 0, 0⟩ else ⟨pc, BN, N⟩) := hid (by unfold cutPl; rw [hN, hBN, hl])
  have HCN : Hid (cutTo c pb most c.length (pn + 1) = N) := hid hN
  rw [HFr.out, HPl.out]
  obtain ⟨LX, hLX⟩ : ∃ LX, ((bitsC En.zero c).drop pb).take (BN - pb) = LX := ⟨_, rfl⟩
  rw [hLX] at HCx ⊢
  obtain ⟨FL, hFL⟩ : ∃ FL, (cl && decide (N = l)) = FL := ⟨_, rfl⟩
  obtain ⟨TO, hTO⟩ : ∃ TO : Pl, (if cl = true ∧ N = l then ⟨pc + 1, 0, 0⟩ else ⟨pc, BN, N⟩) = TO := ⟨_, rfl⟩
  rw [hFL, hTO]
  have HFL := hid hFL
  have HTO := hid hTO
  obtain ⟨sm, hsm⟩ : ∃ sm, sumP c pn = sm := ⟨_, rfl⟩
  have HSum' : Hid (∀ W, (∃ e, W = over w e) → Calls Tryz.prog 18 #[.pointer (some ⟨b, 0, none⟩), .int .u32 (id : Nat), .agg #[.int .u32 (pc : Nat), .int .u32 (pb : Nat), .int .u32 (pn : Nat)]] W (Ret W (.tuple #[.int .u64 (sm : Nat), .int .u16 0]))) := hid (by rw [← hsm]; exact HSum.out)
  rw [hsm]
  clear HSum HFr HPl hLX hsm hN hLC hFL hTO
  go_enter Tryz.func17, Tryz.ntmps17
  go_wp2_with (first
    | (go_at_call 46
       (with_reducible refine (HA.out _ ovA).mono ?_)
       rintro _ w1 ⟨x, rfl, ⟨e1, hw1⟩, hs, hxs⟩
       have O1 : Hid (∃ e, w1 = over w e) := hid (by rw [hw1]; exact ovA)
       have B1 : Hid (Blk w1 w.heap.size [.int .u32 (pc : Nat), .int .u32 (pb : Nat), .int .u32 (pn : Nat)] 42) := hid (by rw [hw1]; repeat (first | exact Blk.new' (by simp) | with_reducible refine Blk.on ?_ _ | with_reducible refine Blk.alloc ?_ _))
       have B8 : Hid (Blk w1 (w.heap.size + 1) [.int .u8 0, .int .u32 0, .int .u32 0, .int .u32 0, .int .u32 0, .int .u32 0, .int .u32 0, .bool false, .int .u64 0, .slice none 0 0, .int .i64 0] 48) := hid (by rw [hw1]; repeat (first | exact Blk.new' (by simp) | with_reducible refine Blk.on ?_ _ | with_reducible refine Blk.alloc ?_ _))
       have B9 : Hid (Blk w1 (w.heap.size + 1 + 1) [.int .u32 0, .int .u32 0, .int .u32 0] 42) := hid (by rw [hw1]; repeat (first | exact Blk.new' (by simp) | with_reducible refine Blk.on ?_ _ | with_reducible refine Blk.alloc ?_ _))
       have hsz1 : w.heap.size + 1 + 1 + 1 ≤ w1.heap.size := by rw [hw1]; simp
       clear hw1
       obtain ⟨g, cap, m, ho⟩ := hs.open_
       rw [← hxs] at HH
       have HP := hid (fun W (hW : ∃ e, W = over w1 e) => part_any (w := W) (hs.ov hW) (ho.ov hW) (by rw [← ho.hc, hxs]; omega) HH.out)
       have HE := hid (fun W (hW : ∃ e, W = over w1 e) => end_any (w := W) (hs.ov hW) (ho.ov hW) (by rw [← ho.hc, hxs]; omega))
       rw [hxs, HFin.out] at HE
       simp only [Pl.v] at HP HE
       obtain ⟨q, hq⟩ := HH.out.open_ hs ho
       have HQ := hid hq
       have HX := hid hxs
       have b0 := B1.out.cell 0 rfl
       have b1 := B1.out.cell 1 rfl
       have b2 := B1.out.cell 2 rfl
       have lb := B1.out.lt
       have hg := ho.lt
       have hm : s.cl.length = m := by rw [← hxs]; exact ho.hc
       rw [hm] at hcl
       clear hs ho hxs hm hq
       skip)
    | (go_at_call 47; (with_reducible refine (HP.out _ ovA).mono ?_); rintro _ _ ⟨⟨e2, rfl⟩, rfl⟩))
  refine M2.wp_region_mix [2] 5 (by kernel_rfl) (by kernel_rfl) (by decide) ?_
  simp only [M2.td]
  with_reducible refine M2.mixL_quiet 2 (by kernel_rfl) ?_
  simp only [M2.td]
  repeat (go_big_quiet_step (fail))
  with_reducible refine wpQuiet_nil ?_
  with_reducible refine M2.mixL_eff (by decide) ?_
  go_wp2_with ((go_at_call 48; (with_reducible refine (HE.out _ ovA).mono ?_); rintro _ _ ⟨⟨e3, rfl⟩, rfl⟩))
  refine M2.MixQ.mk ovA ?_
  with_reducible refine M2.mixL_quiet 2 (by kernel_rfl) ?_
  simp only [M2.td]
  repeat (go_big_quiet_step (fail))
  with_reducible refine wpQuiet_nil ?_
  with_reducible refine M2.mixL_nil ?_
  with_reducible refine M2.mixL_nil ?_
  have HTo := hid (fun W (hW : ∃ e, W = over w1 e) => HQ.out.to hg hW (n := N) (by omega))
  rw [hBN] at HTo
  clear hh HE HP HA hne hne2 hne3 hBN
  refine gen_w ?_
  intro W3 hW3
  have O3 : Hid (∃ e, W3 = over w1 e) := hid (by rw [hW3]; exact ovA)
  clear hW3
  have q0 := (HQ.out.o.ov hg O3.out).r0
  have q1 := (HQ.out.o.ov hg O3.out).r1
  have q2 := (HQ.out.o.ov hg O3.out).r2
  have q10 := (HQ.out.o.ov hg O3.out).r10
  rw [HQ.out.ul, hl] at q2
  rw [HQ.out.his.cl] at q10
  rw [HQ.out.his.L] at q0 q1
  have HUS := hid (Sl.ov HQ.out.se O3.out)
  have HUL := hid HQ.out.ul
  have HSb := hid (Sl.ov HQ.out.sb O3.out)
  rw [HQ.out.his.L] at HSb
  have HUA : Hid (∀ k, (h : k < q.us.length) → q.us[k] = blen c (k + 1)) := hid (fun k h => by simp only [HQ.out.his.us]; exact ends_blen c (by rw [← HQ.out.his.us]; exact h))
  have C1 : Hid (Blk W3 w.heap.size [.int .u32 (pc : Nat), .int .u32 (pb : Nat), .int .u32 (pn : Nat)] 42) := hid (by obtain ⟨e, he⟩ := O3.out; rw [he]; exact Blk.on B1.out e)
  have C8 := hid (show Blk W3 (w.heap.size + 1) _ _ by obtain ⟨e, he⟩ := O3.out; rw [he]; exact Blk.on B8.out e)
  have C9 := hid (show Blk W3 (w.heap.size + 1 + 1) _ _ by obtain ⟨e, he⟩ := O3.out; rw [he]; exact Blk.on B9.out e)
  have hg3 : g < W3.heap.size := by obtain ⟨e, he⟩ := O3.out; rw [he]; simp; omega
  have HPo : Hid (∀ W, (∃ e, W = over W3 e) → PrtO W g pc q) := hid (fun W hW => (HQ.out.o.ov hg O3.out).ov hg3 hW)
  have HTo3 : Hid (∀ W, (∃ e, W = over W3 e) → ∃ e, W = over w1 e) := hid (fun W hW => by obtain ⟨e, rfl⟩ := hW; obtain ⟨e', he'⟩ := O3.out; rw [he']; exact ovA)
  have HTo1 : Hid (∀ W, (∃ e, W = over w1 e) → ∃ e, W = over w e) := hid (fun W hW => by obtain ⟨e, rfl⟩ := hW; obtain ⟨e', he'⟩ := O1.out; rw [he']; exact ovA)
  clear b0 b1 b2 lb B1 B8 B9 hg
  have b0 := C1.out.cell 0 rfl
  have b1 := C1.out.cell 1 rfl
  have b2 := C1.out.cell 2 rfl
  have lb := C1.out.lt
  have hc24 : l ≤ 24 := by rw [← hl]; exact HOKC.out.len
  have hpl : pn + 1 ≤ l := by rw [← hl]; exact hpn
  go_wp2
  go_loopw [13] (fun s' wr => ∃ k f : Nat, pn + 1 ≤ k ∧ k ≤ l ∧ s' = .int .i64 (k : Nat) ∧ cutTo c pb most f k = N ∧ l ≤ k + f ∧ Ov W3 wr) (fun s' _ => l - (intOf s').toNat)
  case atStart => exact ⟨pn + 1, c.length, Nat.le_refl _, hpl, by go_num, HCN.out, by omega, ovA⟩
  case round =>
    obtain ⟨k, f, hk1, hk2, rfl, hct, hf, ⟨e0, rfl⟩⟩ := hrel
    by_cases h1 : k < l
    · have hku : k < q.us.length := by rw [HUL.out, hl]; exact h1
      obtain ⟨b5, o5, ha, hb5, k0⟩ := SlI.at_ HUS.out hku
      rw [HUA.out k hku] at k0
      have hu5 := HLE.out k h1
      have hct2 : cutTo c pb most f k = if k < c.length ∧ (blen c (k + 1) : Int) - pb ≤ most then cutTo c pb most (f - 1) (k + 1) else k := by
        obtain ⟨f', rfl⟩ : ∃ f', f = f' + 1 := ⟨f - 1, by omega⟩
        rw [cutTo]; rfl
      rw [hl] at hct2
      obtain ⟨u, hu⟩ : ∃ u, blen c (k + 1) = u := ⟨_, rfl⟩
      rw [hu] at k0 hu5 hct2
      rw [ha] at q2
      have hd1 : decide (k < l) = true := decide_eq_true h1
      have HCT2 := hid hct2
      have HCT := hid hct
      clear hct2 hct hu ha
      by_cases h2 : (u : Int) - pb ≤ most
      · have hct3 : cutTo c pb most (f - 1) (k + 1) = N := by have h := HCT2.out; rw [if_pos ⟨h1, h2⟩] at h; rw [← h]; exact HCT.out
        have HCT3 := hid hct3
        clear hct3
        go_wp2
        refine wp_region_over (by kernel_rfl) (by kernel_rfl) ?_
        repeat (go_big_quiet_step ((fail)))
        refine wpQuiet_nil ?_
        intro _ hw'
        obtain ⟨nq, rfl⟩ := hw'
        go_wp2
        go_roundw
        case rel => exact ⟨k + 1, f - 1, by omega, by omega, by go_num, HCT3.out, by omega, ovA⟩
        case measure => (simp [intOf]; try omega)
      · have hkN : k = N := by have h := HCT2.out; rw [if_neg (fun hh => h2 hh.2)] at h; rw [← h]; exact HCT.out
        subst hkN
        go_wp2
        refine wp_region_over (by kernel_rfl) (by kernel_rfl) ?_
        repeat (go_big_quiet_step ((fail)))
        refine wpQuiet_nil ?_
        intro _ hw'
        obtain ⟨nq, rfl⟩ := hw'
        go_wp2
        cases cl with
        | false =>
          obtain rfl : FL = false := by rw [← HFL.out]; rfl
          obtain rfl : TO = ⟨pc, BN, k⟩ := by rw [← HTO.out]; rw [if_neg (by simp)]
          refine M2.wp_region_mix [18, 19] 19 (by kernel_rfl) (by kernel_rfl) (by decide) ?_
          simp only [M2.td]
          with_reducible refine M2.mixL_quiet 18 (by kernel_rfl) ?_
          simp only [M2.td]
          repeat (go_big_quiet_step (fail))
          with_reducible refine wpQuiet_nil ?_
          with_reducible refine M2.mixL_eff (by decide) ?_
          go_wp2_with (fail)
          refine M2.MixQ.mk ovA ?_
          with_reducible refine M2.mixL_nil ?_
          with_reducible refine M2.mixL_eff (by decide) ?_
          go_wp2_with (fail)
          refine M2.MixQ.mk trivial ?_
          with_reducible refine M2.mixL_nil ?_
          refine gen_w ?_
          intro W6 hW6
          have O6 : Hid (∃ e, W6 = over W3 e) := hid (by rw [hW6]; exact ovA)
          obtain ⟨p14, hp14⟩ : ∃ p, p = W3.heap.size + e0.heap.size + nq.heap.size := ⟨_, rfl⟩
          have D14 : Hid (Blk W6 p14 [.int .u8 0, .int .u32 0, .int .u32 (id : Nat), .int .u32 (pc : Nat), .int .u32 (pb : Nat), .int .u32 (pn : Nat), .int .u32 (k : Nat), .bool false, .int .u64 0, .slice none 0 0, .int .i64 0] 48) := hid (by rw [hW6, hp14]; repeat (first | exact Blk.new' (by simp; try omega) | with_reducible refine Blk.drew ?_ | with_reducible refine Blk.on ?_ _))
          have hp14w : W3.heap.size ≤ p14 := by omega
          rw [← hp14]
          clear hW6 hp14 b0 b1 b2 lb q0 q1 q2 q10
          have E1 : Hid (Blk W6 w.heap.size [.int .u32 (pc : Nat), .int .u32 (pb : Nat), .int .u32 (pn : Nat)] 42) := hid (by obtain ⟨e, he⟩ := O6.out; rw [he]; exact Blk.on C1.out e)
          have b0 := E1.out.cell 0 rfl
          have b1 := E1.out.cell 1 rfl
          have b2 := E1.out.cell 2 rfl
          have lb := E1.out.lt
          have c8 := D14.out.cell 8 rfl
          have f8 := D14.out.free 8
          have l14 := D14.out.lt
          go_wp2_with (go_at_call 18; (with_reducible refine (HSum'.out _ (HTo1.out _ (HTo3.out _ (ovB O6.out)))).mono ?_); rintro _ _ ⟨⟨e7, rfl⟩, rfl⟩)
          refine gen_w ?_
          intro W7 hW7
          have C67 : Hid (Chg [p14] W6 W7) := hid (by rw [hW7]; exact (by exact chA))
          have D7 : Hid (Blk W7 p14 [.int .u8 0, .int .u32 0, .int .u32 (id : Nat), .int .u32 (pc : Nat), .int .u32 (pb : Nat), .int .u32 (pn : Nat), .int .u32 (k : Nat), .bool false, .int .u64 (sm : Nat), .slice none 0 0, .int .i64 0] 48) := hid (by rw [hW7]; first | exact (Blk.on D14.out _).set 8 _ | exact Blk.on (D14.out.set 8 _) _)
          have O7 : Hid (∃ e, W7 = over W3 e) := hid (Chg.ov O6.out C67.out (by simp; omega))
          have hw67 : W6.heap.size ≤ W7.heap.size := C67.out.size
          clear hW7 b0 b1 b2 lb c8 f8 E1
          have q0 := (HPo.out W7 O7.out).r0
          have q1 := (HPo.out W7 O7.out).r1
          rw [HQ.out.his.L] at q0 q1
          have E1 : Hid (Blk W7 w.heap.size [.int .u32 (pc : Nat), .int .u32 (pb : Nat), .int .u32 (pn : Nat)] 42) := hid (by obtain ⟨e, he⟩ := O7.out; rw [he]; exact Blk.on C1.out e)
          have HS7 := hid (Sl.ov HSb.out O7.out)
          have hg7 : g < W7.heap.size := by have := C67.out.size; obtain ⟨e, he⟩ := O7.out; rw [he]; simp; omega
          have b1 := E1.out.cell 1 rfl
          have lb := E1.out.lt
          have c9 := D7.out.cell 9 rfl
          have c10 := D7.out.cell 10 rfl
          have f9 : ∀ j, W7.frozen? ⟨p14, j, none⟩ = false := fun j => D7.out.free j
          have l7 := D7.out.lt
          have hgp : g ≠ p14 := by omega
          have hw3 := C1.out.lt
          have hwp : w.heap.size ≠ p14 := by omega
          obtain ⟨F2, hF2⟩ : ∃ F2, F2 = [p14] := ⟨_, rfl⟩
          have n1 : p14 ∈ F2 := by rw [hF2]; simp
          have n2 : g ∉ F2 := by rw [hF2]; simpa using hgp
          have n3 : w.heap.size ∉ F2 := by rw [hF2]; simpa using hwp
          have HF2 := hid hF2
          clear hF2
          go_wp2
          refine M2.wp_region_mixZ (fun w' => ∃ m : Mut, w' = chg F2 _ m) [9, 10, 15] 16 (by kernel_rfl) (by kernel_rfl) (by decide) (chg_of (Chg.refl _ _)) ?_
          simp only [M2.td]
          with_reducible refine M2.mixL_quiet 9 (by kernel_rfl) ?_
          simp only [M2.td]
          repeat (go_big_quiet_step (fail))
          with_reducible refine wpQuiet_nil ?_
          with_reducible refine M2.mixL_eff (by decide) ?_
          go_wp2_with ((go_at_call 50; (with_reducible refine (HTo.out _ (HTo3.out _ (ovB O7.out))).mono ?_); rintro _ _ ⟨⟨e8, rfl⟩, rfl⟩))
          refine M2.MixQ.mk (chg_of (by exact chA)) ?_
          with_reducible refine M2.mixL_eff (by decide) ?_
          go_wp2_with ((go_at_call 49; (with_reducible refine (HCx.out _ _ _ (by exact slA HS7.out)).mono ?_); rintro _ _ ⟨a9, cp9, rfl, ⟨e9, rfl⟩, o9⟩; (try simp only [over_drew] at o9); have HO9 := hid o9; clear o9))
          refine M2.MixQ.mk (chg_of (by exact chA)) ?_
          with_reducible refine M2.mixL_quiet 4 (by kernel_rfl) ?_
          simp only [M2.td]
          repeat (go_big_quiet_step (fail))
          with_reducible refine wpQuiet_nil ?_
          with_reducible refine M2.mixL_eff (by decide) ?_
          go_wp2_with (fail)
          refine M2.MixQ.mk (chg_of (by exact chA)) ?_
          with_reducible refine M2.mixL_nil ?_
          with_reducible refine M2.mixL_nil ?_
          refine gen_w ?_
          intro W8 hW8
          have C78 : Hid (Chg [p14] W7 W8) := hid (by rw [hW8]; exact (by exact chA))
          have D8 : Hid (Blk W8 p14 [.int .u8 0, .int .u32 0, .int .u32 (id : Nat), .int .u32 (pc : Nat), .int .u32 (pb : Nat), .int .u32 (pn : Nat), .int .u32 (k : Nat), .bool false, .int .u64 (sm : Nat), .slice a9 (pack LX).length cp9, .int .i64 (LX.length : Nat)] 48) := hid (by rw [hW8]; exact Blk.on (Blk.on ((D7.out.set 9 _).set 10 _) _) _)
          have O8 : Hid (∃ e, W8 = over W3 e) := hid (Chg.ov O7.out C78.out (by simp; omega))
          have N8 : Hid (OwnB W7.heap.size W8 (.slice a9 (pack LX).length cp9) (pack LX)) := hid (by rw [hW8]; exact Own.mono (Own.over_swap HO9.out (by exact szA) (by exact szA)) (by simp))
          have hw78 : W7.heap.size ≤ W8.heap.size := C78.out.size
          clear hW8 HO9 q0 q1 b1 lb c9 c10 f9 l7 n1 n2 n3 E1 HF2
          have E1 : Hid (Blk W8 w.heap.size [.int .u32 (pc : Nat), .int .u32 (pb : Nat), .int .u32 (pn : Nat)] 42) := hid (by obtain ⟨e, he⟩ := O8.out; rw [he]; exact Blk.on C1.out e)
          have B8 := hid (show Blk W8 (w.heap.size + 1) _ _ by obtain ⟨e, he⟩ := O8.out; rw [he]; exact Blk.on C8.out e)
          have B9 := hid (show Blk W8 (w.heap.size + 1 + 1) _ _ by obtain ⟨e, he⟩ := O8.out; rw [he]; exact Blk.on C9.out e)
          have b0 := E1.out.cell 0 rfl
          have lb := E1.out.lt
          have r0 := D8.out.cell 0 rfl
          have r1 := D8.out.cell 1 rfl
          have r2 := D8.out.cell 2 rfl
          have r3 := D8.out.cell 3 rfl
          have r4 := D8.out.cell 4 rfl
          have r5 := D8.out.cell 5 rfl
          have r6 := D8.out.cell 6 rfl
          have r7 := D8.out.cell 7 rfl
          have r8 := D8.out.cell 8 rfl
          have r9 := D8.out.cell 9 rfl
          have r10 := D8.out.cell 10 rfl
          have l8p := D8.out.lt
          have c80 := B8.out.cell 0 rfl
          have c81 := B8.out.cell 1 rfl
          have c82 := B8.out.cell 2 rfl
          have c83 := B8.out.cell 3 rfl
          have c84 := B8.out.cell 4 rfl
          have c85 := B8.out.cell 5 rfl
          have c86 := B8.out.cell 6 rfl
          have c87 := B8.out.cell 7 rfl
          have c88 := B8.out.cell 8 rfl
          have c89 := B8.out.cell 9 rfl
          have c8a := B8.out.cell 10 rfl
          have c90 := B9.out.cell 0 rfl
          have c91 := B9.out.cell 1 rfl
          have c92 := B9.out.cell 2 rfl
          have f8 : ∀ j, _ := fun j => B8.out.free j
          have f9 : ∀ j, _ := fun j => B9.out.free j
          have l8 := B8.out.lt
          have l9 := B9.out.lt
          have hp1 : p14 ≠ w.heap.size + 1 := by have := C8.out.lt; omega
          have hp2 : p14 ≠ w.heap.size + 1 + 1 := by have := C9.out.lt; omega
          obtain ⟨F, hF⟩ : ∃ F, F = [w.heap.size + 1, w.heap.size + 1 + 1] := ⟨_, rfl⟩
          have n1 : w.heap.size + 1 ∈ F := by rw [hF]; simp
          have n2 : w.heap.size + 1 + 1 ∈ F := by rw [hF]; simp
          have n3 : w.heap.size ∉ F := by rw [hF]; simp <;> omega
          have n4 : p14 ∉ F := by rw [hF]; simp; exact ⟨hp1, hp2⟩
          clear hF
          go_wp2
          refine M2.wp_region_mixZ (fun w' => ∃ m : Mut, w' = chg F _ m) [5, 10, 11] 13 (by kernel_rfl) (by kernel_rfl) (by decide) (chg_of (Chg.refl _ _)) ?_
          simp only [M2.td]
          with_reducible refine M2.mixL_quiet 5 (by kernel_rfl) ?_
          simp only [M2.td]
          repeat (go_big_quiet_step (fail))
          with_reducible refine wpQuiet_nil ?_
          with_reducible refine M2.mixL_eff (by decide) ?_
          go_wp2_with ((go_at_call 50; (with_reducible refine (HTo.out _ (HTo3.out _ (ovB O8.out))).mono ?_); rintro _ _ ⟨⟨e9, rfl⟩, rfl⟩))
          refine M2.MixQ.mk (chg_of (by exact chA)) ?_
          with_reducible refine M2.mixL_quiet 4 (by kernel_rfl) ?_
          simp only [M2.td]
          repeat (go_big_quiet_step (fail))
          with_reducible refine wpQuiet_nil ?_
          with_reducible refine M2.mixL_eff (by decide) ?_
          go_wp2_with (fail)
          refine M2.MixQ.mk (chg_of (by exact chA)) ?_
          with_reducible refine M2.mixL_eff (by decide) ?_
          go_wp2_with (fail)
          refine M2.MixQ.mk (chg_of (by exact chA)) ?_
          with_reducible refine M2.mixL_quiet 1 (by kernel_rfl) ?_
          simp only [M2.td]
          repeat (go_big_quiet_step (fail))
          with_reducible refine wpQuiet_nil ?_
          with_reducible refine M2.mixL_nil ?_
          with_reducible refine M2.mixL_nil ?_
          have hwsz : w.heap.size + 1 + 1 < W7.heap.size := by have := C9.out.lt; omega
          go_wp2
          refine gen_w ?_
          intro W9 hW9
          have C89 : Hid (Chg [w.heap.size + 1, w.heap.size + 1 + 1] W8 W9) := hid (by rw [hW9]; exact (by exact chA))
          have D8 : Hid (Blk W9 (w.heap.size + 1) [.int .u8 0, .int .u32 0, .int .u32 (id : Nat), .int .u32 (pc : Nat), .int .u32 (pb : Nat), .int .u32 (pn : Nat), .int .u32 (k : Nat), .bool false, .int .u64 (sm : Nat), .slice a9 (pack LX).length cp9, .int .i64 (LX.length : Nat)] 48) := hid (by rw [hW9]; refine (Blk.on ?_ _); exact Blk.off (Blk.full B8.out [.int .u8 0, .int .u32 0, .int .u32 (id : Nat), .int .u32 (pc : Nat), .int .u32 (pb : Nat), .int .u32 (pn : Nat), .int .u32 (k : Nat), .bool false, .int .u64 (sm : Nat), .slice a9 (pack LX).length cp9, .int .i64 (LX.length : Nat)] rfl) (by omega) [.int .u32 (pc : Nat), .int .u32 (BN : Nat), .int .u32 (k : Nat)] 0)
          have D9 : Hid (Blk W9 (w.heap.size + 1 + 1) [.int .u32 (pc : Nat), .int .u32 (BN : Nat), .int .u32 (k : Nat)] 42) := hid (by rw [hW9]; refine (Blk.on ?_ _); exact Blk.full (Blk.off B9.out (by omega) [.int .u8 0, .int .u32 0, .int .u32 (id : Nat), .int .u32 (pc : Nat), .int .u32 (pb : Nat), .int .u32 (pn : Nat), .int .u32 (k : Nat), .bool false, .int .u64 (sm : Nat), .slice a9 (pack LX).length cp9, .int .i64 (LX.length : Nat)] 0) [.int .u32 (pc : Nat), .int .u32 (BN : Nat), .int .u32 (k : Nat)] rfl)
          have O9 : Hid (∃ e, W9 = over w e) := hid (Chg.ov (HTo1.out _ (HTo3.out _ O8.out)) C89.out (by simp; omega))
          have N9 : Hid (OwnB w.heap.size W9 (.slice a9 (pack LX).length cp9) (pack LX)) := hid (Own.mono (Own.chg N8.out C89.out (fun k hk => by have := (Own.lt N8.out hk).1; simp; omega)) (by omega))
          clear hW9 c80 c81 c82 c83 c84 c85 c86 c87 c88 c89 c8a c90 c91 c92 f8 f9 l8 l9 r0 r1 r2 r3 r4 r5 r6 r7 r8 r9 r10 l8p b0 lb
          have e80 := D8.out.cell 0 rfl
          have e81 := D8.out.cell 1 rfl
          have e82 := D8.out.cell 2 rfl
          have e83 := D8.out.cell 3 rfl
          have e84 := D8.out.cell 4 rfl
          have e85 := D8.out.cell 5 rfl
          have e86 := D8.out.cell 6 rfl
          have e87 := D8.out.cell 7 rfl
          have e88 := D8.out.cell 8 rfl
          have e89 := D8.out.cell 9 rfl
          have e8a := D8.out.cell 10 rfl
          have e90 := D9.out.cell 0 rfl
          have e91 := D9.out.cell 1 rfl
          have e92 := D9.out.cell 2 rfl
          (try simp only [Exit.inBlock, Exit.then])
          refine bodyPost_ret (v := ?rv64) ?rh64 rfl ?rp64
          case rh64 => (simp only [results, show Tryz.f17.results = #[.cell 8 48, .cell 9 42, .tmp 10] from rfl]; go_simp; rfl)
          exact ⟨a9, cp9, rfl, O9.out, N9.out⟩
        | true =>
          have hnl : ¬ k = l := by omega
          obtain rfl : FL = false := by rw [← HFL.out]; simp [hnl]
          obtain rfl : TO = ⟨pc, BN, k⟩ := by rw [← HTO.out]; rw [if_neg (fun hh => hnl hh.2)]
          have hd5 : (k == l) = false := by rw [beq_eq_false_iff_ne]; exact hnl
          have hd6 : ((k : Int) == (l : Int)) = false := by rw [beq_eq_false_iff_ne]; omega
          refine M2.wp_region_mix [18, 19] 19 (by kernel_rfl) (by kernel_rfl) (by decide) ?_
          simp only [M2.td]
          with_reducible refine M2.mixL_quiet 18 (by kernel_rfl) ?_
          simp only [M2.td]
          repeat (go_big_quiet_step (fail))
          with_reducible refine wpQuiet_nil ?_
          with_reducible refine M2.mixL_eff (by decide) ?_
          go_wp2_with (fail)
          refine M2.MixQ.mk ovA ?_
          with_reducible refine M2.mixL_nil ?_
          with_reducible refine M2.mixL_eff (by decide) ?_
          go_wp2_with (fail)
          refine M2.MixQ.mk trivial ?_
          with_reducible refine M2.mixL_nil ?_
          refine gen_w ?_
          intro W6 hW6
          have O6 : Hid (∃ e, W6 = over W3 e) := hid (by rw [hW6]; exact ovA)
          obtain ⟨p14, hp14⟩ : ∃ p, p = W3.heap.size + e0.heap.size + nq.heap.size := ⟨_, rfl⟩
          have D14 : Hid (Blk W6 p14 [.int .u8 0, .int .u32 0, .int .u32 (id : Nat), .int .u32 (pc : Nat), .int .u32 (pb : Nat), .int .u32 (pn : Nat), .int .u32 (k : Nat), .bool false, .int .u64 0, .slice none 0 0, .int .i64 0] 48) := hid (by rw [hW6, hp14]; repeat (first | exact Blk.new' (by simp; try omega) | with_reducible refine Blk.drew ?_ | with_reducible refine Blk.on ?_ _))
          have hp14w : W3.heap.size ≤ p14 := by omega
          rw [← hp14]
          clear hW6 hp14 b0 b1 b2 lb q0 q1 q2 q10
          have E1 : Hid (Blk W6 w.heap.size [.int .u32 (pc : Nat), .int .u32 (pb : Nat), .int .u32 (pn : Nat)] 42) := hid (by obtain ⟨e, he⟩ := O6.out; rw [he]; exact Blk.on C1.out e)
          have b0 := E1.out.cell 0 rfl
          have b1 := E1.out.cell 1 rfl
          have b2 := E1.out.cell 2 rfl
          have lb := E1.out.lt
          have c8 := D14.out.cell 8 rfl
          have f8 := D14.out.free 8
          have l14 := D14.out.lt
          go_wp2_with (go_at_call 18; (with_reducible refine (HSum'.out _ (HTo1.out _ (HTo3.out _ (ovB O6.out)))).mono ?_); rintro _ _ ⟨⟨e7, rfl⟩, rfl⟩)
          refine gen_w ?_
          intro W7 hW7
          have C67 : Hid (Chg [p14] W6 W7) := hid (by rw [hW7]; exact (by exact chA))
          have D7 : Hid (Blk W7 p14 [.int .u8 0, .int .u32 0, .int .u32 (id : Nat), .int .u32 (pc : Nat), .int .u32 (pb : Nat), .int .u32 (pn : Nat), .int .u32 (k : Nat), .bool false, .int .u64 (sm : Nat), .slice none 0 0, .int .i64 0] 48) := hid (by rw [hW7]; first | exact (Blk.on D14.out _).set 8 _ | exact Blk.on (D14.out.set 8 _) _)
          have O7 : Hid (∃ e, W7 = over W3 e) := hid (Chg.ov O6.out C67.out (by simp; omega))
          have hw67 : W6.heap.size ≤ W7.heap.size := C67.out.size
          clear hW7 b0 b1 b2 lb c8 f8 E1
          have q0 := (HPo.out W7 O7.out).r0
          have q1 := (HPo.out W7 O7.out).r1
          rw [HQ.out.his.L] at q0 q1
          have E1 : Hid (Blk W7 w.heap.size [.int .u32 (pc : Nat), .int .u32 (pb : Nat), .int .u32 (pn : Nat)] 42) := hid (by obtain ⟨e, he⟩ := O7.out; rw [he]; exact Blk.on C1.out e)
          have HS7 := hid (Sl.ov HSb.out O7.out)
          have hg7 : g < W7.heap.size := by have := C67.out.size; obtain ⟨e, he⟩ := O7.out; rw [he]; simp; omega
          have b1 := E1.out.cell 1 rfl
          have lb := E1.out.lt
          have c9 := D7.out.cell 9 rfl
          have c10 := D7.out.cell 10 rfl
          have f9 : ∀ j, W7.frozen? ⟨p14, j, none⟩ = false := fun j => D7.out.free j
          have l7 := D7.out.lt
          have hgp : g ≠ p14 := by omega
          have hw3 := C1.out.lt
          have hwp : w.heap.size ≠ p14 := by omega
          obtain ⟨F2, hF2⟩ : ∃ F2, F2 = [p14] := ⟨_, rfl⟩
          have n1 : p14 ∈ F2 := by rw [hF2]; simp
          have n2 : g ∉ F2 := by rw [hF2]; simpa using hgp
          have n3 : w.heap.size ∉ F2 := by rw [hF2]; simpa using hwp
          have HF2 := hid hF2
          clear hF2
          go_wp2
          refine M2.wp_region_mixZ (fun w' => ∃ m : Mut, w' = chg F2 _ m) [9, 10, 15] 16 (by kernel_rfl) (by kernel_rfl) (by decide) (chg_of (Chg.refl _ _)) ?_
          simp only [M2.td]
          with_reducible refine M2.mixL_quiet 9 (by kernel_rfl) ?_
          simp only [M2.td]
          repeat (go_big_quiet_step (fail))
          with_reducible refine wpQuiet_nil ?_
          with_reducible refine M2.mixL_eff (by decide) ?_
          go_wp2_with ((go_at_call 50; (with_reducible refine (HTo.out _ (HTo3.out _ (ovB O7.out))).mono ?_); rintro _ _ ⟨⟨e8, rfl⟩, rfl⟩))
          refine M2.MixQ.mk (chg_of (by exact chA)) ?_
          with_reducible refine M2.mixL_eff (by decide) ?_
          go_wp2_with ((go_at_call 49; (with_reducible refine (HCx.out _ _ _ (by exact slA HS7.out)).mono ?_); rintro _ _ ⟨a9, cp9, rfl, ⟨e9, rfl⟩, o9⟩; (try simp only [over_drew] at o9); have HO9 := hid o9; clear o9))
          refine M2.MixQ.mk (chg_of (by exact chA)) ?_
          with_reducible refine M2.mixL_quiet 4 (by kernel_rfl) ?_
          simp only [M2.td]
          repeat (go_big_quiet_step (fail))
          with_reducible refine wpQuiet_nil ?_
          with_reducible refine M2.mixL_eff (by decide) ?_
          go_wp2_with (fail)
          refine M2.MixQ.mk (chg_of (by exact chA)) ?_
          with_reducible refine M2.mixL_nil ?_
          with_reducible refine M2.mixL_nil ?_
          refine gen_w ?_
          intro W8 hW8
          have C78 : Hid (Chg [p14] W7 W8) := hid (by rw [hW8]; exact (by exact chA))
          have D8 : Hid (Blk W8 p14 [.int .u8 0, .int .u32 0, .int .u32 (id : Nat), .int .u32 (pc : Nat), .int .u32 (pb : Nat), .int .u32 (pn : Nat), .int .u32 (k : Nat), .bool false, .int .u64 (sm : Nat), .slice a9 (pack LX).length cp9, .int .i64 (LX.length : Nat)] 48) := hid (by rw [hW8]; exact Blk.on (Blk.on ((D7.out.set 9 _).set 10 _) _) _)
          have O8 : Hid (∃ e, W8 = over W3 e) := hid (Chg.ov O7.out C78.out (by simp; omega))
          have N8 : Hid (OwnB W7.heap.size W8 (.slice a9 (pack LX).length cp9) (pack LX)) := hid (by rw [hW8]; exact Own.mono (Own.over_swap HO9.out (by exact szA) (by exact szA)) (by simp))
          have hw78 : W7.heap.size ≤ W8.heap.size := C78.out.size
          clear hW8 HO9 q0 q1 b1 lb c9 c10 f9 l7 n1 n2 n3 E1 HF2
          have E1 : Hid (Blk W8 w.heap.size [.int .u32 (pc : Nat), .int .u32 (pb : Nat), .int .u32 (pn : Nat)] 42) := hid (by obtain ⟨e, he⟩ := O8.out; rw [he]; exact Blk.on C1.out e)
          have B8 := hid (show Blk W8 (w.heap.size + 1) _ _ by obtain ⟨e, he⟩ := O8.out; rw [he]; exact Blk.on C8.out e)
          have B9 := hid (show Blk W8 (w.heap.size + 1 + 1) _ _ by obtain ⟨e, he⟩ := O8.out; rw [he]; exact Blk.on C9.out e)
          have b0 := E1.out.cell 0 rfl
          have lb := E1.out.lt
          have r0 := D8.out.cell 0 rfl
          have r1 := D8.out.cell 1 rfl
          have r2 := D8.out.cell 2 rfl
          have r3 := D8.out.cell 3 rfl
          have r4 := D8.out.cell 4 rfl
          have r5 := D8.out.cell 5 rfl
          have r6 := D8.out.cell 6 rfl
          have r7 := D8.out.cell 7 rfl
          have r8 := D8.out.cell 8 rfl
          have r9 := D8.out.cell 9 rfl
          have r10 := D8.out.cell 10 rfl
          have l8p := D8.out.lt
          have c80 := B8.out.cell 0 rfl
          have c81 := B8.out.cell 1 rfl
          have c82 := B8.out.cell 2 rfl
          have c83 := B8.out.cell 3 rfl
          have c84 := B8.out.cell 4 rfl
          have c85 := B8.out.cell 5 rfl
          have c86 := B8.out.cell 6 rfl
          have c87 := B8.out.cell 7 rfl
          have c88 := B8.out.cell 8 rfl
          have c89 := B8.out.cell 9 rfl
          have c8a := B8.out.cell 10 rfl
          have c90 := B9.out.cell 0 rfl
          have c91 := B9.out.cell 1 rfl
          have c92 := B9.out.cell 2 rfl
          have f8 : ∀ j, _ := fun j => B8.out.free j
          have f9 : ∀ j, _ := fun j => B9.out.free j
          have l8 := B8.out.lt
          have l9 := B9.out.lt
          have hp1 : p14 ≠ w.heap.size + 1 := by have := C8.out.lt; omega
          have hp2 : p14 ≠ w.heap.size + 1 + 1 := by have := C9.out.lt; omega
          obtain ⟨F, hF⟩ : ∃ F, F = [w.heap.size + 1, w.heap.size + 1 + 1] := ⟨_, rfl⟩
          have n1 : w.heap.size + 1 ∈ F := by rw [hF]; simp
          have n2 : w.heap.size + 1 + 1 ∈ F := by rw [hF]; simp
          have n3 : w.heap.size ∉ F := by rw [hF]; simp <;> omega
          have n4 : p14 ∉ F := by rw [hF]; simp; exact ⟨hp1, hp2⟩
          clear hF
          go_wp2
          refine M2.wp_region_mixZ (fun w' => ∃ m : Mut, w' = chg F _ m) [5, 10, 11] 13 (by kernel_rfl) (by kernel_rfl) (by decide) (chg_of (Chg.refl _ _)) ?_
          simp only [M2.td]
          with_reducible refine M2.mixL_quiet 5 (by kernel_rfl) ?_
          simp only [M2.td]
          repeat (go_big_quiet_step (fail))
          with_reducible refine wpQuiet_nil ?_
          with_reducible refine M2.mixL_eff (by decide) ?_
          go_wp2_with ((go_at_call 50; (with_reducible refine (HTo.out _ (HTo3.out _ (ovB O8.out))).mono ?_); rintro _ _ ⟨⟨e9, rfl⟩, rfl⟩))
          refine M2.MixQ.mk (chg_of (by exact chA)) ?_
          with_reducible refine M2.mixL_quiet 4 (by kernel_rfl) ?_
          simp only [M2.td]
          repeat (go_big_quiet_step (fail))
          with_reducible refine wpQuiet_nil ?_
          with_reducible refine M2.mixL_eff (by decide) ?_
          go_wp2_with (fail)
          refine M2.MixQ.mk (chg_of (by exact chA)) ?_
          with_reducible refine M2.mixL_eff (by decide) ?_
          go_wp2_with (fail)
          refine M2.MixQ.mk (chg_of (by exact chA)) ?_
          with_reducible refine M2.mixL_quiet 1 (by kernel_rfl) ?_
          simp only [M2.td]
          repeat (go_big_quiet_step (fail))
          with_reducible refine wpQuiet_nil ?_
          with_reducible refine M2.mixL_nil ?_
          with_reducible refine M2.mixL_nil ?_
          have hwsz : w.heap.size + 1 + 1 < W7.heap.size := by have := C9.out.lt; omega
          go_wp2
          refine gen_w ?_
          intro W9 hW9
          have C89 : Hid (Chg [w.heap.size + 1, w.heap.size + 1 + 1] W8 W9) := hid (by rw [hW9]; exact (by exact chA))
          have D8 : Hid (Blk W9 (w.heap.size + 1) [.int .u8 0, .int .u32 0, .int .u32 (id : Nat), .int .u32 (pc : Nat), .int .u32 (pb : Nat), .int .u32 (pn : Nat), .int .u32 (k : Nat), .bool false, .int .u64 (sm : Nat), .slice a9 (pack LX).length cp9, .int .i64 (LX.length : Nat)] 48) := hid (by rw [hW9]; refine (Blk.on ?_ _); exact Blk.off (Blk.full B8.out [.int .u8 0, .int .u32 0, .int .u32 (id : Nat), .int .u32 (pc : Nat), .int .u32 (pb : Nat), .int .u32 (pn : Nat), .int .u32 (k : Nat), .bool false, .int .u64 (sm : Nat), .slice a9 (pack LX).length cp9, .int .i64 (LX.length : Nat)] rfl) (by omega) [.int .u32 (pc : Nat), .int .u32 (BN : Nat), .int .u32 (k : Nat)] 0)
          have D9 : Hid (Blk W9 (w.heap.size + 1 + 1) [.int .u32 (pc : Nat), .int .u32 (BN : Nat), .int .u32 (k : Nat)] 42) := hid (by rw [hW9]; refine (Blk.on ?_ _); exact Blk.full (Blk.off B9.out (by omega) [.int .u8 0, .int .u32 0, .int .u32 (id : Nat), .int .u32 (pc : Nat), .int .u32 (pb : Nat), .int .u32 (pn : Nat), .int .u32 (k : Nat), .bool false, .int .u64 (sm : Nat), .slice a9 (pack LX).length cp9, .int .i64 (LX.length : Nat)] 0) [.int .u32 (pc : Nat), .int .u32 (BN : Nat), .int .u32 (k : Nat)] rfl)
          have O9 : Hid (∃ e, W9 = over w e) := hid (Chg.ov (HTo1.out _ (HTo3.out _ O8.out)) C89.out (by simp; omega))
          have N9 : Hid (OwnB w.heap.size W9 (.slice a9 (pack LX).length cp9) (pack LX)) := hid (Own.mono (Own.chg N8.out C89.out (fun k hk => by have := (Own.lt N8.out hk).1; simp; omega)) (by omega))
          clear hW9 c80 c81 c82 c83 c84 c85 c86 c87 c88 c89 c8a c90 c91 c92 f8 f9 l8 l9 r0 r1 r2 r3 r4 r5 r6 r7 r8 r9 r10 l8p b0 lb
          have e80 := D8.out.cell 0 rfl
          have e81 := D8.out.cell 1 rfl
          have e82 := D8.out.cell 2 rfl
          have e83 := D8.out.cell 3 rfl
          have e84 := D8.out.cell 4 rfl
          have e85 := D8.out.cell 5 rfl
          have e86 := D8.out.cell 6 rfl
          have e87 := D8.out.cell 7 rfl
          have e88 := D8.out.cell 8 rfl
          have e89 := D8.out.cell 9 rfl
          have e8a := D8.out.cell 10 rfl
          have e90 := D9.out.cell 0 rfl
          have e91 := D9.out.cell 1 rfl
          have e92 := D9.out.cell 2 rfl
          (try simp only [Exit.inBlock, Exit.then])
          refine bodyPost_ret (v := ?rv65) ?rh65 rfl ?rp65
          case rh65 => (simp only [results, show Tryz.f17.results = #[.cell 8 48, .cell 9 42, .tmp 10] from rfl]; go_simp; rfl)
          exact ⟨a9, cp9, rfl, O9.out, N9.out⟩
    · have hkN : k = N := by
        have h := hct
        cases f with
        | zero => exact h
        | succ f => rw [cutTo, if_neg (fun hh => h1 (by rw [← hl]; exact hh.1))] at h; exact h
      have hd1 : decide (k < l) = false := decide_eq_false h1
      have hkl : k = l := by omega
      clear hct
      subst hkN
      have hkL := hid hkl
      clear hkl
      go_wp2
      refine wp_region_over (by kernel_rfl) (by kernel_rfl) ?_
      repeat (go_big_quiet_step ((fail)))
      refine wpQuiet_nil ?_
      intro _ hw'
      obtain ⟨nq, rfl⟩ := hw'
      go_wp2
      cases cl with
      | false =>
        obtain rfl : FL = false := by rw [← HFL.out]; rfl
        obtain rfl : TO = ⟨pc, BN, k⟩ := by rw [← HTO.out]; rw [if_neg (by simp)]
        refine M2.wp_region_mix [18, 19] 19 (by kernel_rfl) (by kernel_rfl) (by decide) ?_
        simp only [M2.td]
        with_reducible refine M2.mixL_quiet 18 (by kernel_rfl) ?_
        simp only [M2.td]
        repeat (go_big_quiet_step (fail))
        with_reducible refine wpQuiet_nil ?_
        with_reducible refine M2.mixL_eff (by decide) ?_
        go_wp2_with (fail)
        refine M2.MixQ.mk ovA ?_
        with_reducible refine M2.mixL_nil ?_
        with_reducible refine M2.mixL_eff (by decide) ?_
        go_wp2_with (fail)
        refine M2.MixQ.mk trivial ?_
        with_reducible refine M2.mixL_nil ?_
        refine gen_w ?_
        intro W6 hW6
        have O6 : Hid (∃ e, W6 = over W3 e) := hid (by rw [hW6]; exact ovA)
        obtain ⟨p14, hp14⟩ : ∃ p, p = W3.heap.size + e0.heap.size + nq.heap.size := ⟨_, rfl⟩
        have D14 : Hid (Blk W6 p14 [.int .u8 0, .int .u32 0, .int .u32 (id : Nat), .int .u32 (pc : Nat), .int .u32 (pb : Nat), .int .u32 (pn : Nat), .int .u32 (k : Nat), .bool false, .int .u64 0, .slice none 0 0, .int .i64 0] 48) := hid (by rw [hW6, hp14]; repeat (first | exact Blk.new' (by simp; try omega) | with_reducible refine Blk.drew ?_ | with_reducible refine Blk.on ?_ _))
        have hp14w : W3.heap.size ≤ p14 := by omega
        rw [← hp14]
        clear hW6 hp14 b0 b1 b2 lb q0 q1 q2 q10
        have E1 : Hid (Blk W6 w.heap.size [.int .u32 (pc : Nat), .int .u32 (pb : Nat), .int .u32 (pn : Nat)] 42) := hid (by obtain ⟨e, he⟩ := O6.out; rw [he]; exact Blk.on C1.out e)
        have b0 := E1.out.cell 0 rfl
        have b1 := E1.out.cell 1 rfl
        have b2 := E1.out.cell 2 rfl
        have lb := E1.out.lt
        have c8 := D14.out.cell 8 rfl
        have f8 := D14.out.free 8
        have l14 := D14.out.lt
        go_wp2_with (go_at_call 18; (with_reducible refine (HSum'.out _ (HTo1.out _ (HTo3.out _ (ovB O6.out)))).mono ?_); rintro _ _ ⟨⟨e7, rfl⟩, rfl⟩)
        refine gen_w ?_
        intro W7 hW7
        have C67 : Hid (Chg [p14] W6 W7) := hid (by rw [hW7]; exact (by exact chA))
        have D7 : Hid (Blk W7 p14 [.int .u8 0, .int .u32 0, .int .u32 (id : Nat), .int .u32 (pc : Nat), .int .u32 (pb : Nat), .int .u32 (pn : Nat), .int .u32 (k : Nat), .bool false, .int .u64 (sm : Nat), .slice none 0 0, .int .i64 0] 48) := hid (by rw [hW7]; first | exact (Blk.on D14.out _).set 8 _ | exact Blk.on (D14.out.set 8 _) _)
        have O7 : Hid (∃ e, W7 = over W3 e) := hid (Chg.ov O6.out C67.out (by simp; omega))
        have hw67 : W6.heap.size ≤ W7.heap.size := C67.out.size
        clear hW7 b0 b1 b2 lb c8 f8 E1
        have q0 := (HPo.out W7 O7.out).r0
        have q1 := (HPo.out W7 O7.out).r1
        rw [HQ.out.his.L] at q0 q1
        have E1 : Hid (Blk W7 w.heap.size [.int .u32 (pc : Nat), .int .u32 (pb : Nat), .int .u32 (pn : Nat)] 42) := hid (by obtain ⟨e, he⟩ := O7.out; rw [he]; exact Blk.on C1.out e)
        have HS7 := hid (Sl.ov HSb.out O7.out)
        have hg7 : g < W7.heap.size := by have := C67.out.size; obtain ⟨e, he⟩ := O7.out; rw [he]; simp; omega
        have b1 := E1.out.cell 1 rfl
        have lb := E1.out.lt
        have c9 := D7.out.cell 9 rfl
        have c10 := D7.out.cell 10 rfl
        have f9 : ∀ j, W7.frozen? ⟨p14, j, none⟩ = false := fun j => D7.out.free j
        have l7 := D7.out.lt
        have hgp : g ≠ p14 := by omega
        have hw3 := C1.out.lt
        have hwp : w.heap.size ≠ p14 := by omega
        obtain ⟨F2, hF2⟩ : ∃ F2, F2 = [p14] := ⟨_, rfl⟩
        have n1 : p14 ∈ F2 := by rw [hF2]; simp
        have n2 : g ∉ F2 := by rw [hF2]; simpa using hgp
        have n3 : w.heap.size ∉ F2 := by rw [hF2]; simpa using hwp
        have HF2 := hid hF2
        clear hF2
        go_wp2
        refine M2.wp_region_mixZ (fun w' => ∃ m : Mut, w' = chg F2 _ m) [9, 10, 15] 16 (by kernel_rfl) (by kernel_rfl) (by decide) (chg_of (Chg.refl _ _)) ?_
        simp only [M2.td]
        with_reducible refine M2.mixL_quiet 9 (by kernel_rfl) ?_
        simp only [M2.td]
        repeat (go_big_quiet_step (fail))
        with_reducible refine wpQuiet_nil ?_
        with_reducible refine M2.mixL_eff (by decide) ?_
        go_wp2_with ((go_at_call 50; (with_reducible refine (HTo.out _ (HTo3.out _ (ovB O7.out))).mono ?_); rintro _ _ ⟨⟨e8, rfl⟩, rfl⟩))
        refine M2.MixQ.mk (chg_of (by exact chA)) ?_
        with_reducible refine M2.mixL_eff (by decide) ?_
        go_wp2_with ((go_at_call 49; (with_reducible refine (HCx.out _ _ _ (by exact slA HS7.out)).mono ?_); rintro _ _ ⟨a9, cp9, rfl, ⟨e9, rfl⟩, o9⟩; (try simp only [over_drew] at o9); have HO9 := hid o9; clear o9))
        refine M2.MixQ.mk (chg_of (by exact chA)) ?_
        with_reducible refine M2.mixL_quiet 4 (by kernel_rfl) ?_
        simp only [M2.td]
        repeat (go_big_quiet_step (fail))
        with_reducible refine wpQuiet_nil ?_
        with_reducible refine M2.mixL_eff (by decide) ?_
        go_wp2_with (fail)
        refine M2.MixQ.mk (chg_of (by exact chA)) ?_
        with_reducible refine M2.mixL_nil ?_
        with_reducible refine M2.mixL_nil ?_
        refine gen_w ?_
        intro W8 hW8
        have C78 : Hid (Chg [p14] W7 W8) := hid (by rw [hW8]; exact (by exact chA))
        have D8 : Hid (Blk W8 p14 [.int .u8 0, .int .u32 0, .int .u32 (id : Nat), .int .u32 (pc : Nat), .int .u32 (pb : Nat), .int .u32 (pn : Nat), .int .u32 (k : Nat), .bool false, .int .u64 (sm : Nat), .slice a9 (pack LX).length cp9, .int .i64 (LX.length : Nat)] 48) := hid (by rw [hW8]; exact Blk.on (Blk.on ((D7.out.set 9 _).set 10 _) _) _)
        have O8 : Hid (∃ e, W8 = over W3 e) := hid (Chg.ov O7.out C78.out (by simp; omega))
        have N8 : Hid (OwnB W7.heap.size W8 (.slice a9 (pack LX).length cp9) (pack LX)) := hid (by rw [hW8]; exact Own.mono (Own.over_swap HO9.out (by exact szA) (by exact szA)) (by simp))
        have hw78 : W7.heap.size ≤ W8.heap.size := C78.out.size
        clear hW8 HO9 q0 q1 b1 lb c9 c10 f9 l7 n1 n2 n3 E1 HF2
        have E1 : Hid (Blk W8 w.heap.size [.int .u32 (pc : Nat), .int .u32 (pb : Nat), .int .u32 (pn : Nat)] 42) := hid (by obtain ⟨e, he⟩ := O8.out; rw [he]; exact Blk.on C1.out e)
        have B8 := hid (show Blk W8 (w.heap.size + 1) _ _ by obtain ⟨e, he⟩ := O8.out; rw [he]; exact Blk.on C8.out e)
        have B9 := hid (show Blk W8 (w.heap.size + 1 + 1) _ _ by obtain ⟨e, he⟩ := O8.out; rw [he]; exact Blk.on C9.out e)
        have b0 := E1.out.cell 0 rfl
        have lb := E1.out.lt
        have r0 := D8.out.cell 0 rfl
        have r1 := D8.out.cell 1 rfl
        have r2 := D8.out.cell 2 rfl
        have r3 := D8.out.cell 3 rfl
        have r4 := D8.out.cell 4 rfl
        have r5 := D8.out.cell 5 rfl
        have r6 := D8.out.cell 6 rfl
        have r7 := D8.out.cell 7 rfl
        have r8 := D8.out.cell 8 rfl
        have r9 := D8.out.cell 9 rfl
        have r10 := D8.out.cell 10 rfl
        have l8p := D8.out.lt
        have c80 := B8.out.cell 0 rfl
        have c81 := B8.out.cell 1 rfl
        have c82 := B8.out.cell 2 rfl
        have c83 := B8.out.cell 3 rfl
        have c84 := B8.out.cell 4 rfl
        have c85 := B8.out.cell 5 rfl
        have c86 := B8.out.cell 6 rfl
        have c87 := B8.out.cell 7 rfl
        have c88 := B8.out.cell 8 rfl
        have c89 := B8.out.cell 9 rfl
        have c8a := B8.out.cell 10 rfl
        have c90 := B9.out.cell 0 rfl
        have c91 := B9.out.cell 1 rfl
        have c92 := B9.out.cell 2 rfl
        have f8 : ∀ j, _ := fun j => B8.out.free j
        have f9 : ∀ j, _ := fun j => B9.out.free j
        have l8 := B8.out.lt
        have l9 := B9.out.lt
        have hp1 : p14 ≠ w.heap.size + 1 := by have := C8.out.lt; omega
        have hp2 : p14 ≠ w.heap.size + 1 + 1 := by have := C9.out.lt; omega
        obtain ⟨F, hF⟩ : ∃ F, F = [w.heap.size + 1, w.heap.size + 1 + 1] := ⟨_, rfl⟩
        have n1 : w.heap.size + 1 ∈ F := by rw [hF]; simp
        have n2 : w.heap.size + 1 + 1 ∈ F := by rw [hF]; simp
        have n3 : w.heap.size ∉ F := by rw [hF]; simp <;> omega
        have n4 : p14 ∉ F := by rw [hF]; simp; exact ⟨hp1, hp2⟩
        clear hF
        go_wp2
        refine M2.wp_region_mixZ (fun w' => ∃ m : Mut, w' = chg F _ m) [5, 10, 11] 13 (by kernel_rfl) (by kernel_rfl) (by decide) (chg_of (Chg.refl _ _)) ?_
        simp only [M2.td]
        with_reducible refine M2.mixL_quiet 5 (by kernel_rfl) ?_
        simp only [M2.td]
        repeat (go_big_quiet_step (fail))
        with_reducible refine wpQuiet_nil ?_
        with_reducible refine M2.mixL_eff (by decide) ?_
        go_wp2_with ((go_at_call 50; (with_reducible refine (HTo.out _ (HTo3.out _ (ovB O8.out))).mono ?_); rintro _ _ ⟨⟨e9, rfl⟩, rfl⟩))
        refine M2.MixQ.mk (chg_of (by exact chA)) ?_
        with_reducible refine M2.mixL_quiet 4 (by kernel_rfl) ?_
        simp only [M2.td]
        repeat (go_big_quiet_step (fail))
        with_reducible refine wpQuiet_nil ?_
        with_reducible refine M2.mixL_eff (by decide) ?_
        go_wp2_with (fail)
        refine M2.MixQ.mk (chg_of (by exact chA)) ?_
        with_reducible refine M2.mixL_eff (by decide) ?_
        go_wp2_with (fail)
        refine M2.MixQ.mk (chg_of (by exact chA)) ?_
        with_reducible refine M2.mixL_quiet 1 (by kernel_rfl) ?_
        simp only [M2.td]
        repeat (go_big_quiet_step (fail))
        with_reducible refine wpQuiet_nil ?_
        with_reducible refine M2.mixL_nil ?_
        with_reducible refine M2.mixL_nil ?_
        have hwsz : w.heap.size + 1 + 1 < W7.heap.size := by have := C9.out.lt; omega
        go_wp2
        refine gen_w ?_
        intro W9 hW9
        have C89 : Hid (Chg [w.heap.size + 1, w.heap.size + 1 + 1] W8 W9) := hid (by rw [hW9]; exact (by exact chA))
        have D8 : Hid (Blk W9 (w.heap.size + 1) [.int .u8 0, .int .u32 0, .int .u32 (id : Nat), .int .u32 (pc : Nat), .int .u32 (pb : Nat), .int .u32 (pn : Nat), .int .u32 (k : Nat), .bool false, .int .u64 (sm : Nat), .slice a9 (pack LX).length cp9, .int .i64 (LX.length : Nat)] 48) := hid (by rw [hW9]; refine (Blk.on ?_ _); exact Blk.off (Blk.full B8.out [.int .u8 0, .int .u32 0, .int .u32 (id : Nat), .int .u32 (pc : Nat), .int .u32 (pb : Nat), .int .u32 (pn : Nat), .int .u32 (k : Nat), .bool false, .int .u64 (sm : Nat), .slice a9 (pack LX).length cp9, .int .i64 (LX.length : Nat)] rfl) (by omega) [.int .u32 (pc : Nat), .int .u32 (BN : Nat), .int .u32 (k : Nat)] 0)
        have D9 : Hid (Blk W9 (w.heap.size + 1 + 1) [.int .u32 (pc : Nat), .int .u32 (BN : Nat), .int .u32 (k : Nat)] 42) := hid (by rw [hW9]; refine (Blk.on ?_ _); exact Blk.full (Blk.off B9.out (by omega) [.int .u8 0, .int .u32 0, .int .u32 (id : Nat), .int .u32 (pc : Nat), .int .u32 (pb : Nat), .int .u32 (pn : Nat), .int .u32 (k : Nat), .bool false, .int .u64 (sm : Nat), .slice a9 (pack LX).length cp9, .int .i64 (LX.length : Nat)] 0) [.int .u32 (pc : Nat), .int .u32 (BN : Nat), .int .u32 (k : Nat)] rfl)
        have O9 : Hid (∃ e, W9 = over w e) := hid (Chg.ov (HTo1.out _ (HTo3.out _ O8.out)) C89.out (by simp; omega))
        have N9 : Hid (OwnB w.heap.size W9 (.slice a9 (pack LX).length cp9) (pack LX)) := hid (Own.mono (Own.chg N8.out C89.out (fun k hk => by have := (Own.lt N8.out hk).1; simp; omega)) (by omega))
        clear hW9 c80 c81 c82 c83 c84 c85 c86 c87 c88 c89 c8a c90 c91 c92 f8 f9 l8 l9 r0 r1 r2 r3 r4 r5 r6 r7 r8 r9 r10 l8p b0 lb
        have e80 := D8.out.cell 0 rfl
        have e81 := D8.out.cell 1 rfl
        have e82 := D8.out.cell 2 rfl
        have e83 := D8.out.cell 3 rfl
        have e84 := D8.out.cell 4 rfl
        have e85 := D8.out.cell 5 rfl
        have e86 := D8.out.cell 6 rfl
        have e87 := D8.out.cell 7 rfl
        have e88 := D8.out.cell 8 rfl
        have e89 := D8.out.cell 9 rfl
        have e8a := D8.out.cell 10 rfl
        have e90 := D9.out.cell 0 rfl
        have e91 := D9.out.cell 1 rfl
        have e92 := D9.out.cell 2 rfl
        (try simp only [Exit.inBlock, Exit.then])
        refine bodyPost_ret (v := ?rv66) ?rh66 rfl ?rp66
        case rh66 => (simp only [results, show Tryz.f17.results = #[.cell 8 48, .cell 9 42, .tmp 10] from rfl]; go_simp; rfl)
        exact ⟨a9, cp9, rfl, O9.out, N9.out⟩
      | true =>
        have hnl : k = l := hkL.out
        obtain rfl : FL = true := by rw [← HFL.out]; simp [hnl]
        obtain rfl : TO = ⟨pc + 1, 0, 0⟩ := by rw [← HTO.out]; rw [if_pos ⟨rfl, hnl⟩]
        have hd5 : (k == l) = true := by rw [beq_iff_eq]; exact hnl
        have hd6 : ((k : Int) == (l : Int)) = true := by rw [beq_iff_eq]; omega
        clear hnl
        refine M2.wp_region_mix [18, 19] 19 (by kernel_rfl) (by kernel_rfl) (by decide) ?_
        simp only [M2.td]
        with_reducible refine M2.mixL_quiet 18 (by kernel_rfl) ?_
        simp only [M2.td]
        repeat (go_big_quiet_step (fail))
        with_reducible refine wpQuiet_nil ?_
        with_reducible refine M2.mixL_eff (by decide) ?_
        go_wp2_with (fail)
        refine M2.MixQ.mk ovA ?_
        with_reducible refine M2.mixL_nil ?_
        with_reducible refine M2.mixL_eff (by decide) ?_
        go_wp2_with (fail)
        refine M2.MixQ.mk trivial ?_
        with_reducible refine M2.mixL_nil ?_
        refine gen_w ?_
        intro W6 hW6
        have O6 : Hid (∃ e, W6 = over W3 e) := hid (by rw [hW6]; exact ovA)
        obtain ⟨p14, hp14⟩ : ∃ p, p = W3.heap.size + e0.heap.size + nq.heap.size := ⟨_, rfl⟩
        have D14 : Hid (Blk W6 p14 [.int .u8 0, .int .u32 0, .int .u32 (id : Nat), .int .u32 (pc : Nat), .int .u32 (pb : Nat), .int .u32 (pn : Nat), .int .u32 (k : Nat), .bool true, .int .u64 0, .slice none 0 0, .int .i64 0] 48) := hid (by rw [hW6, hp14]; repeat (first | exact Blk.new' (by simp; try omega) | with_reducible refine Blk.drew ?_ | with_reducible refine Blk.on ?_ _))
        have hp14w : W3.heap.size ≤ p14 := by omega
        rw [← hp14]
        clear hW6 hp14 b0 b1 b2 lb q0 q1 q2 q10
        have E1 : Hid (Blk W6 w.heap.size [.int .u32 (pc : Nat), .int .u32 (pb : Nat), .int .u32 (pn : Nat)] 42) := hid (by obtain ⟨e, he⟩ := O6.out; rw [he]; exact Blk.on C1.out e)
        have b0 := E1.out.cell 0 rfl
        have b1 := E1.out.cell 1 rfl
        have b2 := E1.out.cell 2 rfl
        have lb := E1.out.lt
        have c8 := D14.out.cell 8 rfl
        have f8 := D14.out.free 8
        have l14 := D14.out.lt
        go_wp2_with (go_at_call 18; (with_reducible refine (HSum'.out _ (HTo1.out _ (HTo3.out _ (ovB O6.out)))).mono ?_); rintro _ _ ⟨⟨e7, rfl⟩, rfl⟩)
        refine gen_w ?_
        intro W7 hW7
        have C67 : Hid (Chg [p14] W6 W7) := hid (by rw [hW7]; exact (by exact chA))
        have D7 : Hid (Blk W7 p14 [.int .u8 0, .int .u32 0, .int .u32 (id : Nat), .int .u32 (pc : Nat), .int .u32 (pb : Nat), .int .u32 (pn : Nat), .int .u32 (k : Nat), .bool true, .int .u64 (sm : Nat), .slice none 0 0, .int .i64 0] 48) := hid (by rw [hW7]; first | exact (Blk.on D14.out _).set 8 _ | exact Blk.on (D14.out.set 8 _) _)
        have O7 : Hid (∃ e, W7 = over W3 e) := hid (Chg.ov O6.out C67.out (by simp; omega))
        have hw67 : W6.heap.size ≤ W7.heap.size := C67.out.size
        clear hW7 b0 b1 b2 lb c8 f8 E1
        have q0 := (HPo.out W7 O7.out).r0
        have q1 := (HPo.out W7 O7.out).r1
        rw [HQ.out.his.L] at q0 q1
        have E1 : Hid (Blk W7 w.heap.size [.int .u32 (pc : Nat), .int .u32 (pb : Nat), .int .u32 (pn : Nat)] 42) := hid (by obtain ⟨e, he⟩ := O7.out; rw [he]; exact Blk.on C1.out e)
        have HS7 := hid (Sl.ov HSb.out O7.out)
        have hg7 : g < W7.heap.size := by have := C67.out.size; obtain ⟨e, he⟩ := O7.out; rw [he]; simp; omega
        have b1 := E1.out.cell 1 rfl
        have lb := E1.out.lt
        have c9 := D7.out.cell 9 rfl
        have c10 := D7.out.cell 10 rfl
        have f9 : ∀ j, W7.frozen? ⟨p14, j, none⟩ = false := fun j => D7.out.free j
        have l7 := D7.out.lt
        have hgp : g ≠ p14 := by omega
        have hw3 := C1.out.lt
        have hwp : w.heap.size ≠ p14 := by omega
        obtain ⟨F2, hF2⟩ : ∃ F2, F2 = [p14] := ⟨_, rfl⟩
        have n1 : p14 ∈ F2 := by rw [hF2]; simp
        have n2 : g ∉ F2 := by rw [hF2]; simpa using hgp
        have n3 : w.heap.size ∉ F2 := by rw [hF2]; simpa using hwp
        have HF2 := hid hF2
        clear hF2
        go_wp2
        refine M2.wp_region_mixZ (fun w' => ∃ m : Mut, w' = chg F2 _ m) [9, 10, 15] 16 (by kernel_rfl) (by kernel_rfl) (by decide) (chg_of (Chg.refl _ _)) ?_
        simp only [M2.td]
        with_reducible refine M2.mixL_quiet 9 (by kernel_rfl) ?_
        simp only [M2.td]
        repeat (go_big_quiet_step (fail))
        with_reducible refine wpQuiet_nil ?_
        with_reducible refine M2.mixL_eff (by decide) ?_
        go_wp2_with ((go_at_call 50; (with_reducible refine (HTo.out _ (HTo3.out _ (ovB O7.out))).mono ?_); rintro _ _ ⟨⟨e8, rfl⟩, rfl⟩))
        refine M2.MixQ.mk (chg_of (by exact chA)) ?_
        with_reducible refine M2.mixL_eff (by decide) ?_
        go_wp2_with ((go_at_call 49; (with_reducible refine (HCx.out _ _ _ (by exact slA HS7.out)).mono ?_); rintro _ _ ⟨a9, cp9, rfl, ⟨e9, rfl⟩, o9⟩; (try simp only [over_drew] at o9); have HO9 := hid o9; clear o9))
        refine M2.MixQ.mk (chg_of (by exact chA)) ?_
        with_reducible refine M2.mixL_quiet 4 (by kernel_rfl) ?_
        simp only [M2.td]
        repeat (go_big_quiet_step (fail))
        with_reducible refine wpQuiet_nil ?_
        with_reducible refine M2.mixL_eff (by decide) ?_
        go_wp2_with (fail)
        refine M2.MixQ.mk (chg_of (by exact chA)) ?_
        with_reducible refine M2.mixL_nil ?_
        with_reducible refine M2.mixL_nil ?_
        refine gen_w ?_
        intro W8 hW8
        have C78 : Hid (Chg [p14] W7 W8) := hid (by rw [hW8]; exact (by exact chA))
        have D8 : Hid (Blk W8 p14 [.int .u8 0, .int .u32 0, .int .u32 (id : Nat), .int .u32 (pc : Nat), .int .u32 (pb : Nat), .int .u32 (pn : Nat), .int .u32 (k : Nat), .bool true, .int .u64 (sm : Nat), .slice a9 (pack LX).length cp9, .int .i64 (LX.length : Nat)] 48) := hid (by rw [hW8]; exact Blk.on (Blk.on ((D7.out.set 9 _).set 10 _) _) _)
        have O8 : Hid (∃ e, W8 = over W3 e) := hid (Chg.ov O7.out C78.out (by simp; omega))
        have N8 : Hid (OwnB W7.heap.size W8 (.slice a9 (pack LX).length cp9) (pack LX)) := hid (by rw [hW8]; exact Own.mono (Own.over_swap HO9.out (by exact szA) (by exact szA)) (by simp))
        have hw78 : W7.heap.size ≤ W8.heap.size := C78.out.size
        clear hW8 HO9 q0 q1 b1 lb c9 c10 f9 l7 n1 n2 n3 E1 HF2
        have E1 : Hid (Blk W8 w.heap.size [.int .u32 (pc : Nat), .int .u32 (pb : Nat), .int .u32 (pn : Nat)] 42) := hid (by obtain ⟨e, he⟩ := O8.out; rw [he]; exact Blk.on C1.out e)
        have B8 := hid (show Blk W8 (w.heap.size + 1) _ _ by obtain ⟨e, he⟩ := O8.out; rw [he]; exact Blk.on C8.out e)
        have B9 := hid (show Blk W8 (w.heap.size + 1 + 1) _ _ by obtain ⟨e, he⟩ := O8.out; rw [he]; exact Blk.on C9.out e)
        have b0 := E1.out.cell 0 rfl
        have lb := E1.out.lt
        have r0 := D8.out.cell 0 rfl
        have r1 := D8.out.cell 1 rfl
        have r2 := D8.out.cell 2 rfl
        have r3 := D8.out.cell 3 rfl
        have r4 := D8.out.cell 4 rfl
        have r5 := D8.out.cell 5 rfl
        have r6 := D8.out.cell 6 rfl
        have r7 := D8.out.cell 7 rfl
        have r8 := D8.out.cell 8 rfl
        have r9 := D8.out.cell 9 rfl
        have r10 := D8.out.cell 10 rfl
        have l8p := D8.out.lt
        have c80 := B8.out.cell 0 rfl
        have c81 := B8.out.cell 1 rfl
        have c82 := B8.out.cell 2 rfl
        have c83 := B8.out.cell 3 rfl
        have c84 := B8.out.cell 4 rfl
        have c85 := B8.out.cell 5 rfl
        have c86 := B8.out.cell 6 rfl
        have c87 := B8.out.cell 7 rfl
        have c88 := B8.out.cell 8 rfl
        have c89 := B8.out.cell 9 rfl
        have c8a := B8.out.cell 10 rfl
        have c90 := B9.out.cell 0 rfl
        have c91 := B9.out.cell 1 rfl
        have c92 := B9.out.cell 2 rfl
        have f8 : ∀ j, _ := fun j => B8.out.free j
        have f9 : ∀ j, _ := fun j => B9.out.free j
        have l8 := B8.out.lt
        have l9 := B9.out.lt
        have hp1 : p14 ≠ w.heap.size + 1 := by have := C8.out.lt; omega
        have hp2 : p14 ≠ w.heap.size + 1 + 1 := by have := C9.out.lt; omega
        obtain ⟨F, hF⟩ : ∃ F, F = [w.heap.size + 1, w.heap.size + 1 + 1] := ⟨_, rfl⟩
        have n1 : w.heap.size + 1 ∈ F := by rw [hF]; simp
        have n2 : w.heap.size + 1 + 1 ∈ F := by rw [hF]; simp
        have n3 : w.heap.size ∉ F := by rw [hF]; simp <;> omega
        have n4 : p14 ∉ F := by rw [hF]; simp; exact ⟨hp1, hp2⟩
        clear hF
        go_wp2
        refine M2.wp_region_mixZ (fun w' => ∃ m : Mut, w' = chg F _ m) [5, 6] 8 (by kernel_rfl) (by kernel_rfl) (by decide) (chg_of (Chg.refl _ _)) ?_
        simp only [M2.td]
        with_reducible refine M2.mixL_quiet 5 (by kernel_rfl) ?_
        simp only [M2.td]
        repeat (go_big_quiet_step (fail))
        with_reducible refine wpQuiet_nil ?_
        with_reducible refine M2.mixL_eff (by decide) ?_
        go_wp2_with (fail)
        refine M2.MixQ.mk (chg_of (by exact chA)) ?_
        with_reducible refine M2.mixL_eff (by decide) ?_
        go_wp2_with (fail)
        refine M2.MixQ.mk (chg_of (by exact chA)) ?_
        with_reducible refine M2.mixL_quiet 1 (by kernel_rfl) ?_
        simp only [M2.td]
        repeat (go_big_quiet_step (fail))
        with_reducible refine wpQuiet_nil ?_
        with_reducible refine M2.mixL_nil ?_
        with_reducible refine M2.mixL_nil ?_
        have hwsz : w.heap.size + 1 + 1 < W7.heap.size := by have := C9.out.lt; omega
        have hpc1 : ((pc : Int) + 1) % 4294967296 = ((pc + 1 : Nat) : Int) := by have := HQ.out.lt; simp only at this; omega
        rw [hpc1]
        go_wp2
        refine gen_w ?_
        intro W9 hW9
        have C89 : Hid (Chg [w.heap.size + 1, w.heap.size + 1 + 1] W8 W9) := hid (by rw [hW9]; exact (by exact chA))
        have D8 : Hid (Blk W9 (w.heap.size + 1) [.int .u8 0, .int .u32 0, .int .u32 (id : Nat), .int .u32 (pc : Nat), .int .u32 (pb : Nat), .int .u32 (pn : Nat), .int .u32 (k : Nat), .bool true, .int .u64 (sm : Nat), .slice a9 (pack LX).length cp9, .int .i64 (LX.length : Nat)] 48) := hid (by rw [hW9]; refine (Blk.drew ?_); exact Blk.off (Blk.full B8.out [.int .u8 0, .int .u32 0, .int .u32 (id : Nat), .int .u32 (pc : Nat), .int .u32 (pb : Nat), .int .u32 (pn : Nat), .int .u32 (k : Nat), .bool true, .int .u64 (sm : Nat), .slice a9 (pack LX).length cp9, .int .i64 (LX.length : Nat)] rfl) (by omega) [.int .u32 ((pc + 1 : Nat) : Int), .int .u32 0, .int .u32 0] 0)
        have D9 : Hid (Blk W9 (w.heap.size + 1 + 1) [.int .u32 ((pc + 1 : Nat) : Int), .int .u32 0, .int .u32 0] 42) := hid (by rw [hW9]; refine (Blk.drew ?_); exact Blk.full (Blk.off B9.out (by omega) [.int .u8 0, .int .u32 0, .int .u32 (id : Nat), .int .u32 (pc : Nat), .int .u32 (pb : Nat), .int .u32 (pn : Nat), .int .u32 (k : Nat), .bool true, .int .u64 (sm : Nat), .slice a9 (pack LX).length cp9, .int .i64 (LX.length : Nat)] 0) [.int .u32 ((pc + 1 : Nat) : Int), .int .u32 0, .int .u32 0] rfl)
        have O9 : Hid (∃ e, W9 = over w e) := hid (Chg.ov (HTo1.out _ (HTo3.out _ O8.out)) C89.out (by simp; omega))
        have N9 : Hid (OwnB w.heap.size W9 (.slice a9 (pack LX).length cp9) (pack LX)) := hid (Own.mono (Own.chg N8.out C89.out (fun k hk => by have := (Own.lt N8.out hk).1; simp; omega)) (by omega))
        clear hW9 c80 c81 c82 c83 c84 c85 c86 c87 c88 c89 c8a c90 c91 c92 f8 f9 l8 l9 r0 r1 r2 r3 r4 r5 r6 r7 r8 r9 r10 l8p b0 lb
        have e80 := D8.out.cell 0 rfl
        have e81 := D8.out.cell 1 rfl
        have e82 := D8.out.cell 2 rfl
        have e83 := D8.out.cell 3 rfl
        have e84 := D8.out.cell 4 rfl
        have e85 := D8.out.cell 5 rfl
        have e86 := D8.out.cell 6 rfl
        have e87 := D8.out.cell 7 rfl
        have e88 := D8.out.cell 8 rfl
        have e89 := D8.out.cell 9 rfl
        have e8a := D8.out.cell 10 rfl
        have e90 := D9.out.cell 0 rfl
        have e91 := D9.out.cell 1 rfl
        have e92 := D9.out.cell 2 rfl
        (try simp only [Exit.inBlock, Exit.then])
        refine bodyPost_ret (v := ?rv67) ?rh67 rfl ?rp67
        case rh67 => (simp only [results, show Tryz.f17.results = #[.cell 8 48, .cell 9 42, .tmp 10] from rfl]; go_simp; rfl)
        exact ⟨a9, cp9, rfl, O9.out, N9.out⟩
end Go.Proofs.YtnihngljmmbenaaGreatDoor
