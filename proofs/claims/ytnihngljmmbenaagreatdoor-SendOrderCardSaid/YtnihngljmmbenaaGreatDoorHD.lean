import Derived.Test.YtnihngljmmbenaaGreatDoorHB
import Derived.Test.YtnihngljmmbenaaGreatDoorCut
import Derived.Test.YtnihngljmmbenaaGreatDoorHC
import Derived.Test.YtnihngljmmbenaaGreatDoorGA
namespace Go.Proofs.YtnihngljmmbenaaGreatDoor
set_option linter.unusedVariables false
set_option linter.unusedSimpArgs false
section
open Go.RowKit
attribute [local go_sem] over_drew chg_drew

def getS (l : List (Nat × Sr)) (id : Nat) : Sr := ((l.find? fun x => x.1 == id).map (·.2)).getD Sr.zero
theorem get_or (L : List Se) (id : Nat) : (∃ i, ∃ h : i < L.length, L[i].id = id ∧ getS (bkOf L) id = L[i].s) ∨ ((∀ x ∈ L, x.id ≠ id) ∧ getS (bkOf L) id = Sr.zero) := by
  unfold getS
  cases hq : (bkOf L).find? (fun x => x.1 == id) with
  | none =>
    right
    rw [List.find?_eq_none] at hq
    refine ⟨fun x hx => ?_, rfl⟩
    have := hq (x.id, x.s) (List.mem_map.2 ⟨x, hx, rfl⟩)
    simpa using this
  | some y =>
    left
    have h1 := List.find?_some hq
    have h2 := List.mem_of_find?_eq_some hq
    obtain ⟨x, hx, rfl⟩ := List.mem_map.1 h2
    obtain ⟨i, hi, rfl⟩ := List.getElem_of_mem hx
    exact ⟨i, hi, by simpa using h1, rfl⟩
def AtS (w : World) (s : Sr) (en : Ending) (w' : World) : Prop := ∃ x : Se, en = .returned (.pointer (some ⟨x.sp, 0, none⟩)) ∧ (∃ e, w' = over w e) ∧ SeAt 0 w' x ∧ x.s = s
theorem SeAt.zero_ {base : Nat} {w : World} {x : Se} (h : SeAt base w x) : SeAt 0 w x :=
  ⟨h.blk, Own.mono h.row (Nat.zero_le _), Nat.zero_le _, h.ne, fun p hp => ⟨(h.pts p hp).b, (h.pts p hp).e, fun k hk => ⟨Nat.zero_le _, ((h.pts p hp).lo k hk).2⟩⟩, h.is_, h.ok, h.apart⟩
theorem bkAt_any {base : Nat} {w : World} {b n sz mb : Nat} {L : List Se} (h : BkAt base w b n sz mb L) (id : Nat) :
    Calls Tryz.prog 46 #[.pointer (some ⟨b, 0, none⟩), .int .u32 (id : Nat)] w (AtS w (getS (bkOf L) id)) := by
  rcases get_or L id with ⟨i, hi, h1, h2⟩ | ⟨h1, h2⟩
  · refine (at_old h hi h1).mono ?_
    rintro _ _ ⟨⟨e, rfl⟩, rfl⟩
    exact ⟨L[i], rfl, ⟨e, rfl⟩, (h.on e).ser L[i] (List.getElem_mem hi) |>.zero_, h2.symm⟩
  · refine (at_new h h1).mono ?_
    rintro _ _ ⟨x, rfl, ho, hs, hz, _⟩
    exact ⟨x, rfl, ho, hs.zero_, hz.trans h2.symm⟩

theorem getS_ok {base : Nat} {w : World} {b n sz mb : Nat} {L : List Se} (h : BkAt base w b n sz mb L) (id : Nat) : SrOk (getS (bkOf L) id) := by
  rcases get_or L id with ⟨i, hi, _, h2⟩ | ⟨_, h2⟩
  · rw [h2]; exact (h.ser L[i] (List.getElem_mem hi)).ok
  · rw [h2]; exact SrOk.zero
theorem Sr.has.at_eq {s : Sr} {p : Pl} {c : List Sm} {b : Bool} (h : s.has p c b) : (p.chunk < s.cl.length ∧ s.cl[p.chunk]? = Option.some c ∧ b = true) ∨ (p.chunk = s.cl.length ∧ s.op = c ∧ b = false) := by
  have h1 := h.1
  unfold Sr.at_ at h1
  split at h1
  · rename_i h2
    simp at h1
    exact .inl ⟨h2, by rw [List.getElem?_eq_getElem h2, h1.1], h1.2⟩
  · split at h1
    · rename_i h2
      simp at h1
      exact .inr ⟨h2, h1.1, h1.2⟩
    · simp at h1
theorem Sr.has.ok {s : Sr} {p : Pl} {c : List Sm} {b : Bool} (h : s.has p c b) (hs : SrOk s) : ChkOk c := by
  rcases h.at_eq with ⟨h1, h2, _⟩ | ⟨_, rfl, _⟩
  · exact (hs.cl c (List.mem_of_getElem? h2)).2
  · exact hs.op
theorem Sr.has.part {s : Sr} {p : Pl} {c : List Sm} {b : Bool} (h : s.has p c b) {ps : List Prt} (hi : SeIs ps s) : ∃ hk : p.chunk < ps.length, PrtIs (ps[p.chunk]'hk) c b := by
  have hl := hi.len
  rcases h.at_eq with ⟨h1, h2, rfl⟩ | ⟨h1, rfl, rfl⟩
  · have hk : p.chunk < ps.length := by omega
    have hp := hi.cl p.chunk h1
    rw [List.getElem?_eq_getElem h1] at h2
    rw [Option.some.inj h2] at hp
    exact ⟨hk, hp⟩
  · have hk : p.chunk < ps.length := by omega
    have hp := hi.op
    refine ⟨hk, ?_⟩
    simp only [h1]; exact hp
theorem blen_le {c : List Sm} (h : ChkOk c) (n : Nat) : blen c n ≤ 3504 := by
  unfold blen
  have hw : ∀ x ∈ c.take n, x.wf := fun x hx => h.wf x (List.mem_of_mem_take hx)
  have hl : (c.take n).length ≤ 24 := by rw [List.length_take]; have := h.len; omega
  have := bitsZ_len hw (by omega)
  omega
theorem blen_zero (c : List Sm) : blen c 0 = 0 := rfl
theorem ends_blen (c : List Sm) {k : Nat} (h : k < (endsK c c.length).length) : (endsK c c.length)[k] = blen c (k + 1) := endsK_at c h

set_option maxHeartbeats 1000000 in
theorem to_any {w : World} {g i : Nat} {p : Prt} (hp : PrtO w g i p) (hg : g < w.heap.size) (hs : SlI w p.ea p.ec p.us) {c : List Sm} (hc : ChkOk c) (hu : p.us = endsK c c.length) (n : Nat) (hn : n ≤ c.length) :
    Calls Tryz.prog 50 #[.pointer (some ⟨g, i * 11, none⟩), .int .i64 (n : Nat)] w (Ret w (.int .i64 (blen c n : Nat))) := by
  have r2 := hp.r2
  have hul : p.us.length = c.length := by rw [hu, endsK_len]
  have hl := hc.len
  cases n with
  | zero =>
    rw [blen_zero]
    go_enter Tryz.func50, Tryz.ntmps50
    go_wp2
    go_ret
    exact ⟨ovA, rfl⟩
  | succ m =>
    have hmu : m < p.us.length := by omega
    have hb : p.us[m] = blen c (m + 1) := by
      have h2 : m < (endsK c c.length).length := by rw [endsK_len]; omega
      rw [← ends_blen c h2]
      simp only [hu]
    have hbl := blen_le hc (m + 1)
    obtain ⟨b5, o5, ha, hb5, k0⟩ := hs.at_ hmu
    rw [hb] at k0
    rw [ha] at r2
    obtain ⟨B, hB⟩ : ∃ B, blen c (m + 1) = B := ⟨_, rfl⟩
    rw [hB] at k0 hbl ⊢
    clear hB hb hs hu hp hc ha
    have hne : ((m : Int) + 1 == 0) = false := by rw [beq_eq_false_iff_ne]; omega
    generalize p.us = us at *
    go_enter Tryz.func50, Tryz.ntmps50
    go_wp2
    go_ret
    exact ⟨ovA, rfl⟩
def sumP (c : List Sm) (n : Nat) : Nat := moreR 0 (bitsC En.zero (c.take n))
theorem PrtO.ov {w W : World} {g i : Nat} {p : Prt} (h : PrtO w g i p) (hg : g < w.heap.size) (hW : ∃ e, W = over w e) : PrtO W g i p := by
  obtain ⟨e, rfl⟩ := hW
  exact ⟨by rw [cell_over _ _ _ _ hg]; exact h.r0, by rw [cell_over _ _ _ _ hg]; exact h.r1, by rw [cell_over _ _ _ _ hg]; exact h.r2, by rw [cell_over _ _ _ _ hg]; exact h.r3, by rw [cell_over _ _ _ _ hg]; exact h.r4, by rw [cell_over _ _ _ _ hg]; exact h.r5, by rw [cell_over _ _ _ _ hg]; exact h.r6, by rw [cell_over _ _ _ _ hg]; exact h.r7, by rw [cell_over _ _ _ _ hg]; exact h.r8, by rw [cell_over _ _ _ _ hg]; exact h.r9, by rw [cell_over _ _ _ _ hg]; exact h.r10⟩
structure PlO (w : World) (x : Se) (g m : Nat) (p : Pl) (c : List Sm) (b : Bool) (q : Prt) : Prop where
  q0 : x.ps[p.chunk]? = some q
  lt : p.chunk < m + 1
  his : PrtIs q c b
  ok : ChkOk c
  o : PrtO w g p.chunk q
  sb : SlB w q.ba q.bc (pack q.L)
  se : SlI w q.ea q.ec q.us
  ul : q.us.length = c.length
  ble : p.bits ≤ 3504
  cl24 : c.length ≤ 24
  le : p.count ≤ c.length
  lo : b = true → p.count < c.length
  bl : blen c p.count = p.bits
theorem Sr.has.open_ {base : Nat} {w : World} {x : Se} (h : SeAt base w x) {g cap m : Nat} (ho : SeO w x g cap m) {p : Pl} {c : List Sm} {b : Bool} (hh : x.s.has p c b) : ∃ q, PlO w x g m p c b q := by
  obtain ⟨hk, his⟩ := hh.part h.is_
  have hc := hh.ok h.ok
  have hp := ho.part hk
  have hq := h.pts _ (List.getElem_mem hk)
  have hl := ho.hl
  have hble := blen_le hc p.count
  rw [hh.2.2.2] at hble
  exact ⟨x.ps[p.chunk], List.getElem?_eq_getElem hk, by omega, his, hc, hp, hq.b, hq.e, by rw [his.us, endsK_len], hble, hc.len, hh.2.1, hh.2.2.1, hh.2.2.2⟩
theorem PlO.to {w : World} {x : Se} {g m : Nat} {p : Pl} {c : List Sm} {b : Bool} {q : Prt} (h : PlO w x g m p c b q) (hg : g < w.heap.size) {W : World} (hW : ∃ e, W = over w e) {n : Nat} (hn : n ≤ c.length) :
    Calls Tryz.prog 50 #[.pointer (some ⟨g, p.chunk * 11, none⟩), .int .i64 (n : Nat)] W (Ret W (.int .i64 (blen c n : Nat))) :=
  to_any (h.o.ov hg hW) (by obtain ⟨e, rfl⟩ := hW; simp; omega) (Sl.ov h.se hW) h.ok h.his.us n hn
set_option maxRecDepth 100000 in
set_option maxHeartbeats 2000000 in
theorem part_any {base : Nat} {w : World} {x : Se} (h : SeAt base w x) {g cap m : Nat} (ho : SeO w x g cap m) (hb : m ≤ 1000000) {p : Pl} {c : List Sm} {b : Bool} (hh : x.s.has p c b) :
    Calls Tryz.prog 47 #[.pointer (some ⟨x.sp, 0, none⟩), p.v] w (Ret w (.pointer (some ⟨g, p.chunk * 11, none⟩))) := by
  obtain ⟨q, hq⟩ := hh.open_ h ho
  have hg := ho.lt
  have r0 := h.blk.cell 0 rfl
  rw [ho.hv] at r0
  have l0 := h.blk.lt
  have HT := hid (fun W (hW : ∃ e, W = over w e) => hq.to hg hW hq.le)
  rw [hq.bl] at HT
  have r2 := hq.o.r2
  have r10 := hq.o.r10
  rw [hq.his.cl] at r10
  rw [hq.ul] at r2
  have h1 := hq.lt
  have h2 := hq.ble
  have h3 := hq.cl24
  have h4 := hq.le
  have h5 := hq.lo
  clear hq hh ho h
  obtain ⟨pc, pb, pn⟩ := p
  simp only at *
  obtain ⟨cl, hcl0⟩ : ∃ cl, c.length = cl := ⟨_, rfl⟩
  rw [hcl0] at r2 h3 h4 h5
  clear hcl0
  have d1 : decide ((m : Int) + 1 ≤ (pc : Int)) = false := decide_eq_false (by omega)
  have d2 : decide ((cl : Int) < (pn : Int)) = false := decide_eq_false (by omega)
  have d3 : decide (cl < pn) = false := decide_eq_false (by omega)
  unfold Pl.v
  cases b with
  | false =>
    clear h5
    go_enter Tryz.func47, Tryz.ntmps47
    go_wp2
    refine wp_region_over (by kernel_rfl) (by kernel_rfl) ?_
    repeat (go_big_quiet_step ((fail)))
    refine wpQuiet_nil ?_
    intro _ hw'
    obtain ⟨nq, rfl⟩ := hw'
    go_wp2
    refine wp_region_over (by kernel_rfl) (by kernel_rfl) ?_
    repeat (go_big_quiet_step ((fail)))
    refine wpQuiet_nil ?_
    intro _ hw'
    obtain ⟨nq, rfl⟩ := hw'
    go_wp2
    refine wp_region_over (by kernel_rfl) (by kernel_rfl) ?_
    repeat (go_big_quiet_step ((go_at_call 50; exact quiet_over (HT.out _ ovA))))
    refine wpQuiet_nil ?_
    intro _ hw'
    obtain ⟨nq, rfl⟩ := hw'
    go_wp2
    go_ret
    exact ⟨ovA, rfl⟩
  | true =>
    have h6 := h5 rfl
    have d4 : ((pn : Int) == (cl : Int)) = false := by rw [beq_eq_false_iff_ne]; omega
    have d5 : (pn == cl) = false := by rw [beq_eq_false_iff_ne]; omega
    clear h5
    go_enter Tryz.func47, Tryz.ntmps47
    go_wp2
    refine wp_region_over (by kernel_rfl) (by kernel_rfl) ?_
    repeat (go_big_quiet_step ((fail)))
    refine wpQuiet_nil ?_
    intro _ hw'
    obtain ⟨nq, rfl⟩ := hw'
    go_wp2
    refine wp_region_over (by kernel_rfl) (by kernel_rfl) ?_
    repeat (go_big_quiet_step ((fail)))
    refine wpQuiet_nil ?_
    intro _ hw'
    obtain ⟨nq, rfl⟩ := hw'
    go_wp2
    refine wp_region_over (by kernel_rfl) (by kernel_rfl) ?_
    repeat (go_big_quiet_step ((go_at_call 50; exact quiet_over (HT.out _ ovA))))
    refine wpQuiet_nil ?_
    intro _ hw'
    obtain ⟨nq, rfl⟩ := hw'
    go_wp2
    go_ret
    exact ⟨ovA, rfl⟩
end
section
open Go.RowKit
attribute [local go_sem] over_drew chg_drew

theorem cut_to (l : List Bool) (hl : l.length ≤ 900000) {i j : Nat} (hi : i ≤ j) (hj : j ≤ l.length) (a : Option Addr) (cap : Nat) (w : World) (hs : SlB w a cap (pack l)) :
    Calls Tryz.prog 49 #[bv a (pack l).length cap l.length, .int .i64 (i : Nat), .int .i64 (j : Nat)] w (PutPost w ((l.drop i).take (j - i))) := by
  have h := bcut_any l hl i (j - i) (by omega) a cap w hs
  rw [show i + (j - i) = j by omega] at h
  exact h
theorem cut_sum {c : List Sm} (n : Nat) : ((bitsC En.zero c).drop 0).take (blen c n - 0) = bitsC En.zero (c.take n) := by
  rw [List.drop_zero, Nat.sub_zero]
  conv => lhs; arg 2; rw [← List.take_append_drop n c, bitsC_app]
  exact List.take_left' rfl
theorem blen_mono (c : List Sm) {n m : Nat} (h : n ≤ m) : blen c n ≤ blen c m := by
  unfold blen
  obtain ⟨k, rfl⟩ := Nat.exists_eq_add_of_le h
  rw [List.take_add, bitsC_app]; simp
theorem blen_all (c : List Sm) : (bitsC En.zero c).length = blen c c.length := by unfold blen; rw [List.take_length]
theorem blen_top (c : List Sm) (n : Nat) : blen c n ≤ (bitsC En.zero c).length := by
  rw [blen_all]
  by_cases h : n ≤ c.length
  · exact blen_mono c h
  · unfold blen; rw [List.take_length, List.take_of_length_le (by omega)]; exact Nat.le_refl _

set_option maxRecDepth 100000 in
set_option maxHeartbeats 4000000 in
theorem sum_any {base : Nat} {w : World} {b n sz mb : Nat} {L : List Se} (h : BkAt base w b n sz mb L) (id : Nat) {p : Pl} {c : List Sm} {cl : Bool} (hh : (getS (bkOf L) id).has p c cl) (hcl : (getS (bkOf L) id).cl.length ≤ 900) :
    Calls Tryz.prog 18 #[.pointer (some ⟨b, 0, none⟩), .int .u32 (id : Nat), p.v] w (Ret w (.tuple #[.int .u64 (sumP c p.count : Nat), .int .u16 0])) := by
  have HA := hid (fun W (hW : ∃ e, W = over w e) => bkAt_any (w := W) (by obtain ⟨e, rfl⟩ := hW; exact h.on e) id)
  have HH := hid hh
  have HC := hid hcl
  have hok := hh.ok (getS_ok h id)
  have hble := blen_le hok p.count
  have hbt := blen_top c p.count
  have hbl := hh.2.2.2
  rw [hbl] at hble hbt
  have HO := hid hok
  obtain ⟨pc, pb, pn⟩ := p
  simp only at *
  have HX := hid (fun W a cap (h1 : SlB W a cap (pack (bitsC En.zero c))) => cut_to (bitsC En.zero c) (by have := blen_le hok c.length; rw [← blen_all] at this; omega) (Nat.zero_le pb) hbt a cap W h1)
  have hce := cut_sum (c := c) pn
  rw [hbl] at hce
  rw [hce] at HX
  have HX0 : Hid (∀ W a cap, SlB W a cap (pack (bitsC En.zero c)) → Calls Tryz.prog 49 #[bv a (pack (bitsC En.zero c)).length cap (bitsC En.zero c).length, .int .i64 0, .int .i64 (pb : Nat)] W (PutPost W (bitsC En.zero (c.take pn)))) := HX
  have hl9 : (bitsC En.zero (c.take pn)).length ≤ 900000 := by show blen c pn ≤ _; rw [hbl]; omega
  have HR := hid (fun W a cap (h1 : SlB W a cap (pack (bitsC En.zero (c.take pn)))) => rollOf_any (bitsC En.zero (c.take pn)) hl9 a cap W h1)
  have HS : Hid (sumP c pn = moreR 0 (bitsC En.zero (c.take pn))) := hid rfl
  rw [← HS.out] at HR
  generalize sumP c pn = sm at *
  generalize bitsC En.zero (c.take pn) = LP at *
  obtain ⟨LC, hLC⟩ : ∃ LC, bitsC En.zero c = LC := ⟨_, rfl⟩
  rw [hLC] at HX0
  have HLC := hid hLC
  clear hLC hbt hce HX hbl hok hh hcl HS h
  unfold Pl.v
  go_enter Tryz.func18, Tryz.ntmps18
  go_wp2
  refine M2.wp_region_mix [2, 4] 6 (by kernel_rfl) (by kernel_rfl) (by decide) ?_
  simp only [M2.td]
  with_reducible refine M2.mixL_quiet 2 (by kernel_rfl) ?_
  simp only [M2.td]
  repeat (go_big_quiet_step (fail))
  with_reducible refine wpQuiet_nil ?_
  with_reducible refine M2.mixL_eff (by decide) ?_
  go_wp2_with ((go_at_call 46; (with_reducible refine (HA.out _ ovA).mono ?_); rintro _ _ ⟨x, rfl, ⟨e1, rfl⟩, hs, hxs⟩; (try simp only [over_drew] at hs); obtain ⟨g, cap, m, ho⟩ := hs.open_; rw [← hxs] at HH HC; obtain ⟨q, hq⟩ := HH.out.open_ hs ho; have HP := hid (fun W (hW : ∃ e, W = over _ e) => part_any (w := W) (hs.ov hW) (ho.ov hW) (by rw [← ho.hc]; have := HC.out; omega) HH.out); simp only [Pl.v] at HP; have HQ := hid hq; have hg := ho.lt; clear hs ho hxs hq))
  refine M2.MixQ.mk ovA ?_
  with_reducible refine M2.mixL_quiet 1 (by kernel_rfl) ?_
  simp only [M2.td]
  repeat (go_big_quiet_step (fail))
  with_reducible refine wpQuiet_nil ?_
  with_reducible refine M2.mixL_eff (by decide) ?_
  go_wp2_with ((go_at_call 47; (with_reducible refine (HP.out _ ovA).mono ?_); rintro _ _ ⟨⟨e2, rfl⟩, rfl⟩))
  refine M2.MixQ.mk ovA ?_
  with_reducible refine M2.mixL_quiet 1 (by kernel_rfl) ?_
  simp only [M2.td]
  repeat (go_big_quiet_step (fail))
  with_reducible refine wpQuiet_nil ?_
  with_reducible refine M2.mixL_nil ?_
  with_reducible refine M2.mixL_nil ?_
  have hlc : LC.length ≤ 900000 := by rw [← HLC.out]; have := blen_le HO.out c.length; rw [← blen_all] at this; omega
  refine gen_w ?_
  intro W2 hW2
  have O2 : Hid (∃ e, W2 = over w e) := hid (by rw [hW2]; exact ovA)
  have Q2 : Hid (PrtO W2 g pc q) := hid (by rw [hW2]; exact HQ.out.o.ov hg ovA)
  have S2 : Hid (SlB W2 q.ba q.bc (pack LC)) := hid (by have h1 := HQ.out.sb; rw [HQ.out.his.L, HLC.out] at h1; rw [hW2]; exact Sl.ov h1 ovA)
  have B2 : Hid (Blk W2 w.heap.size [.int .u32 (pc : Nat), .int .u32 (pb : Nat), .int .u32 (pn : Nat)] 42) := hid (by rw [hW2]; repeat (first | with_reducible refine Blk.drew ?_ | with_reducible refine Blk.on ?_ _ | exact Blk.new' (by simp)))
  have hg2 : g < W2.heap.size := by rw [hW2]; simp at hg ⊢; omega
  have q0 := Q2.out.r0
  have q1 := Q2.out.r1
  rw [HQ.out.his.L, HLC.out] at q0 q1
  have b1 := B2.out.cell 1 rfl
  have lb := B2.out.lt
  clear hW2 HQ hg HP HA HH HO HLC
  go_wp2
  refine M2.wp_region_tree (fun w' => ∃ e : World, w' = over _ e) [7, 11, 12] (.q 0 (.q 1 (.q 2 (.q 3 (.q 4 (.q 5 (.q 6 (.e 7 (.q 8 (.q 9 (.q 10 (.e 11 (.e 12 (.q 13 .done) .no) .no)))) (.e 11 (.e 7 (.q 8 (.q 9 (.q 10 (.e 12 (.q 13 .done) .no)))) .no) .no))))))))) (by kernel_rfl) (by kernel_rfl) (ex_drew (over_self _)) ?_
  repeat (refine M2.tree_q rfl rfl ?_; go_big_quiet_step (fail); with_reducible refine wpQuiet_nil ?_)
  refine M2.tree_e (k := 7) rfl ?_ ?_
  · go_wp2_with ((go_at_call 49; (with_reducible refine (HX0.out _ _ _ (by exact slA S2.out)).mono ?_); rintro _ _ ⟨a4, c4, rfl, ⟨e4, rfl⟩, o4⟩; (try simp only [over_drew] at o4); have HO4 := hid o4; clear o4))
    refine M2.TreeQ.mk ovA ?_
    repeat (refine M2.tree_q rfl rfl ?_; go_big_quiet_step (fail); with_reducible refine wpQuiet_nil ?_)
    refine M2.tree_e1 (k := 11) rfl ?_
    go_wp2_with (fail)
    refine M2.TreeQ.mk ovA ?_
    refine M2.tree_e1 (k := 12) rfl ?_
    go_wp2_with (fail)
    refine M2.TreeQ.mk ovA ?_
    repeat (refine M2.tree_q rfl rfl ?_; go_big_quiet_step (fail); with_reducible refine wpQuiet_nil ?_)
    refine M2.tree_done ?_
    refine gen_w ?_
    intro W5 hW5
    have O5 : Hid (∃ e, W5 = over W2 e) := hid (by rw [hW5]; exact ovA)
    have B5 : Hid (Blk W5 ((W2.heap.size + e4.heap.size)) [.slice a4 (pack LP).length c4, .int .i64 (LP.length : Nat)] 46) := hid (by rw [hW5]; repeat (first | with_reducible refine Blk.drew ?_ | with_reducible refine Blk.on ?_ _ | exact Blk.new' (by simp)))
    have N5 : Hid (OwnB W2.heap.size W5 (.slice a4 (pack LP).length c4) (pack LP)) := hid (by rw [hW5]; first | exact Own.alloc (Own.mono HO4.out (by exact szA)) _ | exact Own.mono (Own.over_swap HO4.out (by exact szA) (by exact szA)) (by exact szA))
    have S5 := hid (Own.slice' bcs_len N5.out).2
    clear hW5
    obtain ⟨p5, hp5⟩ : ∃ p, p = (W2.heap.size + e4.heap.size) := ⟨_, rfl⟩
    rw [← hp5] at B5 ⊢
    clear hp5
    have b50 := B5.out.cell 0 rfl
    have b51 := B5.out.cell 1 rfl
    have lb5 := B5.out.lt
    go_wp2_with (go_at_call 51; (with_reducible refine (HR.out _ _ _ (by exact slA S5.out)).mono ?_); rintro _ _ ⟨⟨e5, rfl⟩, rfl⟩)
    go_ret2
    obtain ⟨z2, rfl⟩ := O2.out
    obtain ⟨z5, rfl⟩ := O5.out
    exact ⟨ovA, rfl⟩
  refine M2.tree_e (k := 11) rfl ?_ ?_
  · go_wp2_with (fail)
    refine M2.TreeQ.mk ovA ?_
    refine M2.tree_e1 (k := 7) rfl ?_
    go_wp2_with ((go_at_call 49; (with_reducible refine (HX0.out _ _ _ (by exact slA S2.out)).mono ?_); rintro _ _ ⟨a4, c4, rfl, ⟨e4, rfl⟩, o4⟩; (try simp only [over_drew] at o4); have HO4 := hid o4; clear o4))
    refine M2.TreeQ.mk ovA ?_
    repeat (refine M2.tree_q rfl rfl ?_; go_big_quiet_step (fail); with_reducible refine wpQuiet_nil ?_)
    refine M2.tree_e1 (k := 12) rfl ?_
    go_wp2_with (fail)
    refine M2.TreeQ.mk ovA ?_
    repeat (refine M2.tree_q rfl rfl ?_; go_big_quiet_step (fail); with_reducible refine wpQuiet_nil ?_)
    refine M2.tree_done ?_
    refine gen_w ?_
    intro W5 hW5
    have O5 : Hid (∃ e, W5 = over W2 e) := hid (by rw [hW5]; exact ovA)
    have B5 : Hid (Blk W5 ((W2.heap.size)) [.slice a4 (pack LP).length c4, .int .i64 (LP.length : Nat)] 46) := hid (by rw [hW5]; repeat (first | with_reducible refine Blk.drew ?_ | with_reducible refine Blk.on ?_ _ | exact Blk.new' (by simp)))
    have N5 : Hid (OwnB W2.heap.size W5 (.slice a4 (pack LP).length c4) (pack LP)) := hid (by rw [hW5]; first | exact Own.alloc (Own.mono HO4.out (by exact szA)) _ | exact Own.mono (Own.over_swap HO4.out (by exact szA) (by exact szA)) (by exact szA))
    have S5 := hid (Own.slice' bcs_len N5.out).2
    clear hW5
    obtain ⟨p5, hp5⟩ : ∃ p, p = (W2.heap.size) := ⟨_, rfl⟩
    rw [← hp5] at B5 ⊢
    clear hp5
    have b50 := B5.out.cell 0 rfl
    have b51 := B5.out.cell 1 rfl
    have lb5 := B5.out.lt
    go_wp2_with (go_at_call 51; (with_reducible refine (HR.out _ _ _ (by exact slA S5.out)).mono ?_); rintro _ _ ⟨⟨e5, rfl⟩, rfl⟩)
    go_ret2
    obtain ⟨z2, rfl⟩ := O2.out
    obtain ⟨z5, rfl⟩ := O5.out
    exact ⟨ovA, rfl⟩
  exact M2.tree_no
end
section
open Go.RowKit
attribute [local go_sem] over_drew chg_drew

set_option maxRecDepth 100000 in
set_option maxHeartbeats 4000000 in
theorem bend_any {base : Nat} {w : World} {b n sz mb : Nat} {L : List Se} (h : BkAt base w b n sz mb L) (id : Nat) (hcl : (getS (bkOf L) id).cl.length ≤ 900) :
    Calls Tryz.prog 21 #[.pointer (some ⟨b, 0, none⟩), .int .u32 (id : Nat)] w (Ret w (getS (bkOf L) id).fin.v) := by
  have HA := hid (fun W (hW : ∃ e, W = over w e) => bkAt_any (w := W) (by obtain ⟨e, rfl⟩ := hW; exact h.on e) id)
  generalize getS (bkOf L) id = s at *
  have HC := hid hcl
  go_enter Tryz.func21, Tryz.ntmps21
  go_wp2_with (first
    | (go_at_call 46
       (with_reducible refine (HA.out _ ovA).mono ?_)
       rintro _ _ ⟨x, rfl, ⟨e1, rfl⟩, hs, hxs⟩
       (try simp only [over_drew] at hs)
       obtain ⟨g, cap, m, ho⟩ := hs.open_
       have HE := hid (fun W (hW : ∃ e, W = over _ e) => end_any (w := W) (hs.ov hW) (ho.ov hW) (by rw [← ho.hc, hxs]; omega))
       simp only [hxs] at HE
       obtain ⟨pc, pb, pn⟩ := s.fin
       simp only [Pl.v] at HE ⊢
       clear hs ho hxs)
    | (go_at_call 48; (with_reducible refine (HE.out _ ovA).mono ?_); rintro _ _ ⟨⟨e2, rfl⟩, rfl⟩))
  (try simp only [Exit.inBlock, Exit.then])
  refine bodyPost_ret (v := ?rv62) ?rh62 rfl ?rp62
  case rh62 => (simp only [results, show Tryz.f21.results = #[.cell 4 42] from rfl]; go_simp; rfl)
  exact ⟨ovA, rfl⟩

theorem SeIs.L {ps : List Prt} {s : Sr} (h : SeIs ps s) {i : Nat} (hi : i < ps.length) : ∃ c, s.chunks[i]? = Option.some c ∧ ps[i].L = bitsC En.zero c := by
  have hl := h.len
  by_cases h1 : i < s.cl.length
  · refine ⟨s.cl[i], ?_, (h.cl i h1).L⟩
    unfold Sr.chunks
    rw [List.getElem?_append_left h1, List.getElem?_eq_getElem h1]
  · obtain rfl : i = s.cl.length := by omega
    exact ⟨s.op, by unfold Sr.chunks; simp, h.op.L⟩
theorem chunks_len (s : Sr) : s.chunks.length = s.cl.length + 1 := by simp [Sr.chunks]
def Sr.lens (s : Sr) : List Nat := s.chunks.map fun c => (bitsC En.zero c).length
theorem SeIs.lens {ps : List Prt} {s : Sr} (h : SeIs ps s) {i : Nat} (hi : i < ps.length) : s.lens[i]? = Option.some ps[i].L.length := by
  obtain ⟨c, h1, h2⟩ := h.L hi
  unfold Sr.lens
  rw [List.getElem?_map, h1, h2]; rfl
theorem lens_len (s : Sr) : s.lens.length = s.cl.length + 1 := by simp [Sr.lens, chunks_len]
theorem sum_cast (l : List Nat) : ((l.map fun (n : Nat) => (n : Int)).sum) = (l.sum : Nat) := by
  induction l with
  | nil => rfl
  | cons a l ih => simp [ih]
theorem behind_eq (s : Sr) (p : Pl) : s.behind p = ((s.lens.drop p.chunk).sum : Nat) - (p.bits : Int) := by
  unfold Sr.behind Sr.lens
  rw [← sum_cast, List.map_drop, List.map_drop, List.map_map]; rfl
theorem lens_le {s : Sr} (h : SrOk s) : ∀ n ∈ s.lens, n ≤ 3504 := by
  intro n hn
  unfold Sr.lens at hn
  obtain ⟨c, hc, rfl⟩ := List.mem_map.1 hn
  have hk : ChkOk c := by
    rcases List.mem_append.1 hc with h1 | h1
    · exact (h.cl c h1).2
    · simp at h1; subst h1; exact h.op
  rw [blen_all]; exact blen_le hk _
theorem sum_le {l : List Nat} {B : Nat} (h : ∀ n ∈ l, n ≤ B) : l.sum ≤ l.length * B := by
  induction l with
  | nil => simp
  | cons a l ih =>
    have h1 := h a (List.mem_cons_self)
    have h2 := ih fun n hn => h n (List.mem_cons_of_mem _ hn)
    simp only [List.sum_cons, List.length_cons, Nat.succ_mul]; omega
theorem sum_take_succ {l : List Nat} {k : Nat} (h : k < l.length) : (l.take (k + 1)).sum = (l.take k).sum + l[k] := by
  rw [List.take_add_one, List.getElem?_eq_getElem h, List.sum_append]; rfl
theorem sum_take_le {l : List Nat} (k : Nat) : (l.take k).sum ≤ l.sum := by
  conv => rhs; rw [← List.take_append_drop k l, List.sum_append]
  omega
theorem SeAt.cap {base : Nat} {w : World} {x : Se} (h : SeAt base w x) {g cap m : Nat} (ho : SeO w x g cap m) : m + 1 ≤ cap := by
  obtain ⟨a', cap', hv, hsl⟩ := Own.slice Prt.cs_len h.row
  rw [ho.hv] at hv
  simp only [Value.slice.injEq] at hv
  have h1 := hsl.le
  have h2 := ho.hl
  omega
theorem behind_k {l : List Nat} (h : ∀ n ∈ l, n ≤ 3504) (hl : l.length ≤ 901) {k : Nat} (hk : k < l.length) : ((l.take k).sum : Int) + (l[k] : Int) = ((l.take (k + 1)).sum : Nat) ∧ (l.take (k + 1)).sum ≤ 3157104 ∧ (l.take k).sum ≤ 3157104 := by
  have h1 := sum_take_succ hk
  have h2 := sum_take_le (l := l) (k + 1)
  have h3 := sum_le h
  have h4 : l.length * 3504 ≤ 901 * 3504 := Nat.mul_le_mul_right _ hl
  refine ⟨by rw [h1]; simp, by omega, by omega⟩
set_option maxRecDepth 100000 in
set_option maxHeartbeats 4000000 in
theorem behind_any {base : Nat} {w : World} {b n sz mb : Nat} {L : List Se} (h : BkAt base w b n sz mb L) (id : Nat) {p : Pl} {c : List Sm} {cl : Bool} (hh : (getS (bkOf L) id).has p c cl) (hcl : (getS (bkOf L) id).cl.length ≤ 900) :
    Calls Tryz.prog 62 #[.pointer (some ⟨b, 0, none⟩), .int .u32 (id : Nat), p.v] w (Ret w (.tuple #[.int .i64 ((getS (bkOf L) id).behind p), .int .u16 0])) := by
  have HA := hid (fun W (hW : ∃ e, W = over w e) => bkAt_any (w := W) (by obtain ⟨e, rfl⟩ := hW; exact h.on e) id)
  have hok := getS_ok h id
  obtain ⟨s, hs0⟩ : ∃ s, getS (bkOf L) id = s := ⟨_, rfl⟩
  rw [hs0] at hh hcl HA hok ⊢
  have HH := hid hh
  have HC := hid hcl
  obtain ⟨B, hB⟩ : ∃ B, s.behind p = B := ⟨_, rfl⟩
  rw [hB]
  rw [behind_eq] at hB
  have HB := hid hB
  have hch : p.chunk ≤ s.cl.length := by rcases hh.at_eq with ⟨h1, _⟩ | ⟨h1, _⟩ <;> omega
  have hpb : p.bits ≤ 3504 := by have := blen_le (hh.ok hok) p.count; rw [hh.2.2.2] at this; exact this
  have HOK := hid hok
  obtain ⟨pc, pb, pn⟩ := p
  simp only [Pl.v] at *
  clear hs0 hh hB h hok
  go_enter Tryz.func62, Tryz.ntmps62
  go_wp2_with (first
    | (go_at_call 46
       (with_reducible refine (HA.out _ ovA).mono ?_)
       rintro _ w1 ⟨x, rfl, ⟨e1, hw1⟩, hs, hxs⟩
       have O1 : Hid (∃ e, w1 = over w e) := hid (by rw [hw1]; exact ovA)
       have B1 : Hid (Blk w1 w.heap.size [.int .u32 (pc : Nat), .int .u32 (pb : Nat), .int .u32 (pn : Nat)] 42) := hid (by rw [hw1]; exact Blk.on (Blk.new' (by simp)) _)
       clear hw1
       obtain ⟨g, cap, m, ho⟩ := hs.open_
       rw [← hxs] at HH
       have HP := hid (fun W (hW : ∃ e, W = over w1 e) => part_any (w := W) (hs.ov hW) (ho.ov hW) (by rw [← ho.hc, hxs]; omega) HH.out)
       simp only [Pl.v] at HP
       have HS := hid hs
       have HO := hid ho
       have HX := hid hxs
       have b0 := B1.out.cell 0 rfl
       have b1 := B1.out.cell 1 rfl
       have b2 := B1.out.cell 2 rfl
       have lb := B1.out.lt
       have r0 := hs.blk.cell 0 rfl
       rw [ho.hv] at r0
       have l0 := hs.blk.lt
       have hm : s.cl.length = m := by rw [← hxs]; exact ho.hc
       rw [hm] at hch hcl
       clear hs ho hxs hm)
    | (go_at_call 47; (with_reducible refine (HP.out _ ovA).mono ?_); rintro _ _ ⟨⟨e2, rfl⟩, rfl⟩))
  have hcap : ¬ cap = pc := by have := SeAt.cap HS.out HO.out; omega
  have hcap2 : pc ≤ cap := by have := SeAt.cap HS.out HO.out; omega
  refine wp_region_over (by kernel_rfl) (by kernel_rfl) ?_
  repeat (go_big_quiet_step ((fail)))
  refine wpQuiet_nil ?_
  intro _ hw'
  obtain ⟨nq, rfl⟩ := hw'
  go_wp2
  obtain ⟨D, hD⟩ : ∃ D, s.lens.drop pc = D := ⟨_, rfl⟩
  have hDl : D.length = m + 1 - pc := by rw [← hD, List.length_drop, lens_len, ← HX.out, HO.out.hc]
  have HDk : Hid (∀ k, (h : k < D.length) → ∃ q, x.ps[pc + k]? = some q ∧ D[k] = q.L.length) := hid (fun k hk => by
    have hp : pc + k < x.ps.length := by have := HO.out.hl; omega
    refine ⟨x.ps[pc + k], List.getElem?_eq_getElem hp, ?_⟩
    have h1 := HS.out.is_.lens hp
    rw [HX.out] at h1
    have h2 : D[k]? = some x.ps[pc + k].L.length := by rw [← hD, List.getElem?_drop]; exact h1
    rw [List.getElem?_eq_getElem hk] at h2
    exact Option.some.inj h2)
  have HDB := hid (fun k hk => behind_k (l := D) (fun n hn => lens_le HOK.out n (by rw [← hD] at hn; exact List.mem_of_mem_drop hn)) (by omega) (k := k) hk)
  have HBe := HB.out
  rw [hD] at HBe
  have HBE := hid HBe
  have hdl : D.length ≤ 901 := by omega
  rw [← hDl]
  clear hD HBe HB HH HP
  have hg := HO.out.lt
  go_loopw [9, 31] (fun v i wr => ∃ k : Nat, k ≤ D.length ∧ i = .int .i64 (k : Nat) ∧ v = .int .i64 (((D.take k).sum : Nat) - (pb : Int)) ∧ Ov w1 wr) (fun _ i _ => D.length - (intOf i).toNat)
  case atStart => exact ⟨0, Nat.zero_le _, rfl, by simp, ovA⟩
  case round =>
    obtain ⟨k, hk, rfl, rfl, ⟨e0, rfl⟩⟩ := hrel
    by_cases hlt : k < D.length
    · obtain ⟨q, hq, hDq⟩ := HDk.out k hlt
      obtain ⟨hs1, hs2, hs3⟩ := HDB.out k hlt
      have hpk : pc + k < x.ps.length := by have := HO.out.hl; omega
      have hqo := (HO.out.part hpk).ov hg (W := over w1 e0) ⟨e0, rfl⟩
      rw [List.getElem?_eq_getElem hpk] at hq
      rw [Option.some.inj hq] at hqo
      have hab : (pc + k) * 11 = pc * 11 + k * 11 := by omega
      have q0 := hqo.r0
      have q1 := hqo.r1
      have q2 := hqo.r2
      have q3 := hqo.r3
      have q4 := hqo.r4
      have q5 := hqo.r5
      have q6 := hqo.r6
      have q7 := hqo.r7
      have q8 := hqo.r8
      have q9 := hqo.r9
      have q10 := hqo.r10
      rw [hab] at q0 q1 q2 q3 q4 q5 q6 q7 q8 q9 q10
      rw [← hDq] at q1
      clear hqo hq hab
      generalize D[k] = dk at *
      obtain ⟨T, hT⟩ : ∃ T, (D.take k).sum = T := ⟨_, rfl⟩
      obtain ⟨T', hT'⟩ : ∃ T, (D.take (k + 1)).sum = T := ⟨_, rfl⟩
      rw [hT, hT'] at hs1
      rw [hT'] at hs2
      rw [hT] at hs3 ⊢
      have HT' := hid hT'
      clear hT hT'
      go_wp2
      go_roundw
      case rel => exact ⟨k + 1, by omega, by go_num, by rw [HT'.out]; go_num, ovA⟩
      case measure => (simp [intOf]; try omega)
    · obtain rfl : k = D.length := by omega
      rw [List.take_length, HBE.out]
      go_wp2
      go_ret2
      obtain ⟨z, rfl⟩ := O1.out
      exact ⟨ovA, rfl⟩
end
section
open Go.RowKit

structure Fr where
  series : Nat
  from_ : Pl
  count : Nat
  closed : Bool
  sum : Nat
  bits : List Bool
def Fr.cs (f : Fr) (a : Option Addr) (cap : Nat) : List Value := [.int .u8 0, .int .u32 0, .int .u32 (f.series : Nat), .int .u32 (f.from_.chunk : Nat), .int .u32 (f.from_.bits : Nat), .int .u32 (f.from_.count : Nat), .int .u32 (f.count : Nat), .bool f.closed, .int .u64 (f.sum : Nat), .slice a (pack f.bits).length cap, .int .i64 (f.bits.length : Nat)]
def Fr.v (f : Fr) (a : Option Addr) (cap : Nat) : Value := .agg #[.int .u8 0, .int .u32 0, .int .u32 (f.series : Nat), .int .u32 (f.from_.chunk : Nat), .int .u32 (f.from_.bits : Nat), .int .u32 (f.from_.count : Nat), .int .u32 (f.count : Nat), .bool f.closed, .int .u64 (f.sum : Nat), .slice a (pack f.bits).length cap, .int .i64 (f.bits.length : Nat)]
def Fr.zero : Fr := ⟨0, Pl.zero, 0, false, 0, []⟩
def cutF (id : Nat) (c : List Sm) (cl : Bool) (p : Pl) (most : Int) : Fr :=
  ⟨id, p, cutN c p most, cl && decide (cutN c p most = c.length), sumP c p.count, ((bitsC En.zero c).drop p.bits).take (blen c (cutN c p most) - p.bits)⟩
def cutPl (c : List Sm) (cl : Bool) (p : Pl) (most : Int) : Pl :=
  if cl = true ∧ cutN c p most = c.length then ⟨p.chunk + 1, 0, 0⟩ else ⟨p.chunk, blen c (cutN c p most), cutN c p most⟩
def CutPost (w : World) (f : Fr) (to : Pl) (en : Ending) (w' : World) : Prop :=
  ∃ a cap, en = .returned (.tuple #[f.v a cap, to.v, .int .u16 0]) ∧ (∃ e, w' = over w e) ∧ OwnB w.heap.size w' (.slice a (pack f.bits).length cap) (pack f.bits)
theorem cutTo_le (c : List Sm) (fr : Nat) (most : Int) : ∀ f n, n ≤ c.length → n ≤ cutTo c fr most f n ∧ cutTo c fr most f n ≤ c.length
  | 0, n, h => ⟨Nat.le_refl _, h⟩
  | f + 1, n, h => by
    unfold cutTo
    split
    · rename_i h1
      have := cutTo_le c fr most f (n + 1) h1.1
      exact ⟨by omega, this.2⟩
    · exact ⟨Nat.le_refl _, h⟩
theorem cutN_le {c : List Sm} {p : Pl} (most : Int) (h : p.count < c.length) : p.count + 1 ≤ cutN c p most ∧ cutN c p most ≤ c.length := cutTo_le c p.bits most _ _ h
theorem has_fin {s : Sr} {p : Pl} {c : List Sm} {cl : Bool} (h : s.has p c cl) (hc : p.count = c.length) : p = s.fin := by
  rcases h.at_eq with ⟨_, _, h3⟩ | ⟨h1, h2, _⟩
  · have := h.2.2.1 h3; omega
  · obtain ⟨pc, pb, pn⟩ := p
    have h4 := h.2.2.2
    simp only at *
    subst h2
    unfold Sr.fin
    rw [h1, ← h4, hc]
theorem has_lt {s : Sr} {p : Pl} {c : List Sm} {cl : Bool} (h : s.has p c cl) (hp : p ≠ s.fin) : p.count < c.length := by
  have := h.2.1
  rcases Nat.lt_or_ge p.count c.length with h1 | h1
  · exact h1
  · exact absurd (has_fin h (by omega)) hp
instance : DecidableEq Pl := fun a b => by
  cases a; cases b
  rename_i a1 a2 a3 b1 b2 b3
  exact decidable_of_iff (a1 = b1 ∧ a2 = b2 ∧ a3 = b3) (by simp)
end
section
open Go.RowKit

theorem has_at {s : Sr} (h : SrOk s) {k : Nat} (hk : k ≤ s.cl.length) : ∃ c b, s.has ⟨k, 0, 0⟩ c b := by
  by_cases h0 : k < s.cl.length
  · refine ⟨s.cl[k], true, by simp [Sr.at_, h0], Nat.zero_le _, fun _ => ?_, blen_zero _⟩
    exact List.length_pos_iff.2 (h.cl _ (List.getElem_mem h0)).1
  · obtain rfl : k = s.cl.length := by omega
    exact ⟨s.op, false, by simp [Sr.at_], Nat.zero_le _, fun hh => (by cases hh), blen_zero _⟩
theorem next_has {s : Sr} (h : SrOk s) {p : Pl} {c : List Sm} {b : Bool} (hh : s.has p c b) (hp : p ≠ s.fin) (most : Int) : ∃ c' b', s.has (cutPl c b p most) c' b' := by
  have hl := has_lt hh hp
  have hn := cutN_le most hl
  unfold cutPl
  split
  · rename_i h1
    refine has_at h ?_
    rcases hh.at_eq with ⟨h2, _⟩ | ⟨_, _, h3⟩
    · omega
    · rw [h1.1] at h3; cases h3
  · rename_i h1
    refine ⟨c, b, hh.1, hn.2, fun hb => ?_, rfl⟩
    have : cutN c p most ≠ c.length := fun e => h1 ⟨hb, e⟩
    show cutN c p most < _
    omega
def Sr.rank (s : Sr) (p : Pl) : Nat := (s.cl.take p.chunk).flatten.length + p.count
theorem rank_le {s : Sr} {p : Pl} {c : List Sm} {b : Bool} (hh : s.has p c b) : s.rank p ≤ s.all.length := by
  unfold Sr.rank Sr.all
  rw [List.length_append]
  have h2 := hh.2.1
  rcases hh.at_eq with ⟨h1, h3, _⟩ | ⟨h1, h3, _⟩
  · have e : s.cl.flatten.length = (s.cl.take p.chunk).flatten.length + (s.cl.drop p.chunk).flatten.length := by
      rw [← List.length_append, ← List.flatten_append, List.take_append_drop]
    rw [List.getElem?_eq_getElem h1] at h3
    rw [List.drop_eq_getElem_cons h1, Option.some.inj h3, List.flatten_cons, List.length_append] at e
    omega
  · rw [h1, List.take_length, h3]; omega
theorem rank_next {s : Sr} {p : Pl} {c : List Sm} {b : Bool} (hh : s.has p c b) (hp : p ≠ s.fin) (most : Int) : s.rank p < s.rank (cutPl c b p most) := by
  have hl := has_lt hh hp
  have hn := cutN_le most hl
  unfold cutPl
  split
  · rename_i h1
    rcases hh.at_eq with ⟨h2, h3, _⟩ | ⟨_, _, h3⟩
    · unfold Sr.rank
      rw [List.getElem?_eq_getElem h2] at h3
      simp only
      rw [List.take_add_one, List.getElem?_eq_getElem h2, Option.some.inj h3, List.flatten_append, List.length_append]
      simp only [Option.toList_some, List.flatten_cons, List.flatten_nil, List.append_nil]
      omega
    · rw [h1.1] at h3; cases h3
  · unfold Sr.rank
    simp only
    omega
theorem lens_at {s : Sr} {p : Pl} {c : List Sm} {b : Bool} (hh : s.has p c b) : s.lens[p.chunk]? = Option.some (bitsC En.zero c).length := by
  unfold Sr.lens Sr.chunks
  rw [List.getElem?_map]
  rcases hh.at_eq with ⟨h1, h3, _⟩ | ⟨h1, h3, _⟩
  · rw [List.getElem?_append_left h1, h3]; rfl
  · rw [h1, List.getElem?_append_right (Nat.le_refl _), Nat.sub_self, h3]; rfl
theorem cutF_len {s : Sr} {p : Pl} {c : List Sm} {b : Bool} (hh : s.has p c b) (hp : p ≠ s.fin) (most : Int) (id : Nat) : (cutF id c b p most).bits.length = blen c (cutN c p most) - p.bits ∧ p.bits ≤ blen c (cutN c p most) ∧ blen c (cutN c p most) ≤ (bitsC En.zero c).length := by
  have hl := has_lt hh hp
  have hn := cutN_le most hl
  have h1 := blen_top c (cutN c p most)
  have h2 := blen_mono c (show p.count ≤ cutN c p most by omega)
  rw [hh.2.2.2] at h2
  refine ⟨?_, h2, h1⟩
  unfold cutF
  simp only [List.length_take, List.length_drop]
  omega
theorem drop_sum {l : List Nat} {k n : Nat} (h : l[k]? = some n) : (l.drop k).sum = n + (l.drop (k + 1)).sum := by
  obtain ⟨hk, rfl⟩ := List.getElem?_eq_some_iff.1 h
  rw [List.drop_eq_getElem_cons hk, List.sum_cons]
theorem behind_next {s : Sr} {p : Pl} {c : List Sm} {b : Bool} (hh : s.has p c b) (hp : p ≠ s.fin) (most : Int) (id : Nat) : s.behind p = s.behind (cutPl c b p most) + ((cutF id c b p most).bits.length : Nat) := by
  obtain ⟨h1, h2, h3⟩ := cutF_len hh hp most id
  rw [h1, behind_eq, behind_eq]
  have hd := drop_sum (lens_at hh)
  unfold cutPl
  split
  · rename_i h4
    rw [h4.2, ← blen_all] at h2 ⊢
    simp only
    omega
  · simp only
    omega
theorem behind_lo {s : Sr} {p : Pl} {c : List Sm} {b : Bool} (hh : s.has p c b) : 0 ≤ s.behind p := by
  rw [behind_eq]
  have hd := drop_sum (lens_at hh)
  have h1 := blen_top c p.count
  rw [hh.2.2.2] at h1
  omega
theorem behind_hi {s : Sr} (h : SrOk s) {n : Nat} (hn : s.cl.length ≤ n) (p : Pl) : s.behind p ≤ ((n + 1) * 3504 : Nat) := by
  rw [behind_eq]
  have h1 := sum_le (l := s.lens.drop p.chunk) (fun k hk => lens_le h k (List.mem_of_mem_drop hk))
  have h2 : (s.lens.drop p.chunk).length ≤ n + 1 := by rw [List.length_drop, lens_len]; omega
  have h3 : (s.lens.drop p.chunk).length * 3504 ≤ (n + 1) * 3504 := Nat.mul_le_mul_right _ h2
  omega
theorem bits_take (c : List Sm) (n : Nat) : bitsC En.zero (c.take n) = (bitsC En.zero c).take (blen c n) := by
  have := cut_sum (c := c) n
  rw [List.drop_zero, Nat.sub_zero] at this
  exact this.symm
theorem sum_next {c : List Sm} {p : Pl} {N : Nat} (hb : blen c p.count = p.bits) (hn : p.bits ≤ blen c N) : sumP c N = moreR (sumP c p.count) (((bitsC En.zero c).drop p.bits).take (blen c N - p.bits)) := by
  unfold sumP
  rw [← moreR_app, bits_take c N, bits_take c p.count, hb, ← List.take_add, Nat.add_sub_cancel' hn]
theorem cutTo_most (c : List Sm) (fr : Nat) (most : Int) : ∀ f n, cutTo c fr most f n = n ∨ (blen c (cutTo c fr most f n) : Int) - fr ≤ most
  | 0, n => .inl rfl
  | f + 1, n => by
    unfold cutTo
    split
    · rename_i h
      rcases cutTo_most c fr most f (n + 1) with h1 | h1
      · rw [h1]; exact .inr h.2
      · exact .inr h1
    · exact .inl rfl
theorem cutN_most (c : List Sm) (p : Pl) (most : Int) : cutN c p most = p.count + 1 ∨ (blen c (cutN c p most) : Int) - p.bits ≤ most := cutTo_most c p.bits most _ _

/-! ### What was put, laid -/
def putS (sz : Nat) (S : List (Nat × Sr)) (id : Nat) (x : Sm) : List (Nat × Sr) :=
  match S.findIdx? (fun y => y.1 == id) with
  | some i => S.set i (id, (getS S id).put sz x)
  | none => S ++ [(id, Sr.zero.put sz x)]
def stepS (sz : Nat) (S : List (Nat × Sr)) (o : Nat × Sm) : List (Nat × Sr) := if (getS S o.1).may o.2.t then putS sz S o.1 o.2 else S
def layS (sz : Nat) (l : List (Nat × Sm)) : List (Nat × Sr) := l.foldl (stepS sz) []
theorem layS_take {sz : Nat} {l : List (Nat × Sm)} {k : Nat} (h : k < l.length) : layS sz (l.take (k + 1)) = stepS sz (layS sz (l.take k)) l[k] := by
  unfold layS
  rw [List.take_add_one, List.getElem?_eq_getElem h, List.foldl_append]; rfl
theorem findIdx_id {S : List (Nat × Sr)} (hn : (S.map (·.1)).Nodup) {i : Nat} (hi : i < S.length) : S.findIdx? (fun y => y.1 == S[i].1) = some i := by
  rw [List.findIdx?_eq_some_iff_getElem]
  refine ⟨hi, by simp, ?_⟩
  intro j hj
  simp only [Bool.not_eq_true, beq_eq_false_iff_ne]
  intro he
  have := (List.pairwise_iff_getElem.1 hn) j i (by simp; omega) (by simpa using hi) hj
  simp at this
  exact this he
theorem getS_at {S : List (Nat × Sr)} (hn : (S.map (·.1)).Nodup) {i : Nat} (hi : i < S.length) : getS S S[i].1 = S[i].2 := by
  unfold getS
  have h1 : S.find? (fun x => x.1 == S[i].1) = some S[i] := by
    rw [List.find?_eq_some_iff_getElem]
    refine ⟨by simp, i, hi, rfl, ?_⟩
    intro j hj
    simp only [Bool.not_eq_true', beq_eq_false_iff_ne]
    intro he
    have := (List.pairwise_iff_getElem.1 hn) j i (by simp; omega) (by simpa using hi) hj
    simp at this
    exact this he
  rw [h1]; rfl
theorem putS_old {sz : Nat} {S : List (Nat × Sr)} (hn : (S.map (·.1)).Nodup) {i : Nat} (hi : i < S.length) (x : Sm) : putS sz S S[i].1 x = S.set i (S[i].1, S[i].2.put sz x) := by
  unfold putS
  rw [findIdx_id hn hi, getS_at hn hi]
theorem findIdx_no {S : List (Nat × Sr)} {id : Nat} (h : ∀ x ∈ S, x.1 ≠ id) : S.findIdx? (fun y => y.1 == id) = none := by
  rw [List.findIdx?_eq_none_iff]
  intro y hy
  simpa using h y hy
theorem putS_new {sz : Nat} {S : List (Nat × Sr)} {id : Nat} (h : ∀ x ∈ S, x.1 ≠ id) (x : Sm) : putS sz S id x = S ++ [(id, Sr.zero.put sz x)] := by
  unfold putS
  rw [findIdx_no h]
structure LayI (sz k : Nat) (S : List (Nat × Sr)) : Prop where
  len : S.length ≤ k
  all : ∀ x ∈ S, x.2.all.length ≤ k ∧ x.2.all ≠ []
  full : ∀ x ∈ S, (∀ c ∈ x.2.cl, c.length = sz) ∧ x.2.op.length < sz
  ids : (S.map (·.1)).Nodup
theorem LayI.nil (sz : Nat) : LayI sz 0 [] := ⟨Nat.le_refl _, by simp, by simp, by simp⟩
theorem LayI.more {sz k : Nat} {S : List (Nat × Sr)} (h : LayI sz k S) : LayI sz (k + 1) S := ⟨by have := h.len; omega, fun x hx => ⟨by have := (h.all x hx).1; omega, (h.all x hx).2⟩, h.full, h.ids⟩
theorem put_full {sz : Nat} {s : Sr} (h : (∀ c ∈ s.cl, c.length = sz) ∧ s.op.length < sz) (x : Sm) : (∀ c ∈ (s.put sz x).cl, c.length = sz) ∧ (s.put sz x).op.length < sz := by
  unfold Sr.put
  split
  · rename_i h1
    refine ⟨fun c hc => ?_, by simp; omega⟩
    rcases List.mem_append.1 hc with h2 | h2
    · exact h.1 c h2
    · simp at h2; subst h2; simpa using h1
  · refine ⟨h.1, by simp; omega⟩
theorem LayI.put {sz k : Nat} {S : List (Nat × Sr)} (h : LayI sz k S) (hsz : 1 ≤ sz) (id : Nat) (x : Sm) : LayI sz (k + 1) (putS sz S id x) := by
  by_cases hi : ∃ i, ∃ hi : i < S.length, S[i].1 = id
  · obtain ⟨i, hi, rfl⟩ := hi
    rw [putS_old h.ids hi]
    have hm := List.getElem_mem hi
    have key : ∀ y ∈ S.set i (S[i].1, S[i].2.put sz x), y ∈ S ∨ y = (S[i].1, S[i].2.put sz x) := fun y hy => List.mem_or_eq_of_mem_set hy
    refine ⟨by rw [List.length_set]; have := h.len; omega, fun y hy => ?_, fun y hy => ?_, ?_⟩
    · rcases key y hy with h1 | rfl
      · exact ⟨by have := (h.all y h1).1; omega, (h.all y h1).2⟩
      · simp only [put_all]
        exact ⟨by have := (h.all _ hm).1; simp; omega, by simp⟩
    · rcases key y hy with h1 | rfl
      · exact h.full y h1
      · exact put_full (h.full _ hm) x
    · rw [List.map_set]
      have : (S[i].1, S[i].2.put sz x).1 = (S.map (·.1))[i]'(by simpa using hi) := by simp
      rw [this, List.set_getElem_self]
      exact h.ids
  · have hn : ∀ y ∈ S, y.1 ≠ id := by
      intro y hy he
      obtain ⟨i, hi', rfl⟩ := List.getElem_of_mem hy
      exact hi ⟨i, hi', he⟩
    rw [putS_new hn]
    have key : ∀ y ∈ S ++ [(id, Sr.zero.put sz x)], y ∈ S ∨ y = (id, Sr.zero.put sz x) := fun y hy => by simpa using hy
    have hl := h.len
    refine ⟨by simp; omega, fun y hy => ?_, fun y hy => ?_, ?_⟩
    · rcases key y hy with h1 | rfl
      · exact ⟨by have := (h.all y h1).1; omega, (h.all y h1).2⟩
      · simp only [put_all]
        exact ⟨by simp [Sr.all, Sr.zero], by simp⟩
    · rcases key y hy with h1 | rfl
      · exact h.full y h1
      · exact put_full ⟨by simp [Sr.zero], by simp [Sr.zero]; omega⟩ x
    · rw [List.map_append]
      refine List.nodup_append.2 ⟨h.ids, by simp, ?_⟩
      intro a ha c hc2
      simp at hc2; subst hc2
      obtain ⟨y, hy, rfl⟩ := List.mem_map.1 ha
      exact hn y hy
theorem LayI.step {sz k : Nat} {S : List (Nat × Sr)} (h : LayI sz k S) (hsz : 1 ≤ sz) (o : Nat × Sm) : LayI sz (k + 1) (stepS sz S o) := by
  unfold stepS
  split
  · exact h.put hsz _ _
  · exact h.more
theorem layI {sz : Nat} (hsz : 1 ≤ sz) (l : List (Nat × Sm)) : ∀ k, k ≤ l.length → LayI sz k (layS sz (l.take k))
  | 0, _ => by rw [List.take_zero]; exact LayI.nil sz
  | k + 1, hk => by
    rw [layS_take (by omega)]
    exact (layI hsz l k (by omega)).step hsz _
theorem flat_len {l : List (List Sm)} (h : ∀ c ∈ l, c ≠ []) : l.length ≤ l.flatten.length := by
  induction l with
  | nil => simp
  | cons a l ih =>
    have h1 := List.length_pos_iff.2 (h a (by simp))
    have h2 := ih (fun c hc => h c (by simp [hc]))
    simp only [List.flatten_cons, List.length_append, List.length_cons]
    omega
theorem cl_le {s : Sr} (h : SrOk s) {k : Nat} (hk : s.all.length ≤ k) : s.cl.length ≤ k := by
  have h1 := flat_len (fun c hc => (h.cl c hc).1)
  unfold Sr.all at hk
  rw [List.length_append] at hk
  omega
def allS (S : List (Nat × Sr)) : List (Nat × List Sm) := S.map fun x => (x.1, x.2.all)
theorem allS_old {sz : Nat} {S : List (Nat × Sr)} (hn : (S.map (·.1)).Nodup) {i : Nat} (hi : i < S.length) (x : Sm) : allS (putS sz S S[i].1 x) = (allS S).set i (S[i].1, S[i].2.all ++ [x]) := by
  rw [putS_old hn hi]
  unfold allS
  rw [List.map_set, put_all]
theorem allS_new {sz : Nat} {S : List (Nat × Sr)} {id : Nat} (h : ∀ x ∈ S, x.1 ≠ id) (x : Sm) : allS (putS sz S id x) = allS S ++ [(id, [x])] := by
  rw [putS_new h]
  unfold allS
  rw [List.map_append, List.map_cons, List.map_nil, put_all]; rfl
end
section
open Go.RowKit

abbrev kS1 : List (Nat × Sr) := [(5, ⟨[], [⟨10, 1⟩]⟩)]
abbrev kS2 : List (Nat × Sr) := [(5, ⟨[[⟨10, 1⟩, ⟨20, 1⟩]], []⟩)]
theorem kn_wf (t : Int) (v : Nat) (h1 : 0 ≤ t ∧ t ≤ 100) (h2 : v ≤ 100) : (⟨t, v⟩ : Sm).wf := ⟨by unfold i64ok; simp only; omega, by simp only; omega⟩
end
section
open Go.RowKit
theorem place_eqIn (w : World) (a b c a' b' c' : Int) : (Op.equalIn 10000 42 (.agg #[.int .u32 a, .int .u32 b, .int .u32 c]) (.agg #[.int .u32 a', .int .u32 b', .int .u32 c'])).run Tryz.prog w = .ok (a == a' && b == b' && c == c') w := by
  rw [run_equalIn_struct w 9999 42 _ _ (by kernel_rfl) (by kernel_rfl)]
  have hf : (Tryz.prog.fieldsOf 42).toList.length = 3 := by kernel_rfl
  obtain ⟨f1, f2, f3, hl⟩ : ∃ f1 f2 f3, (Tryz.prog.fieldsOf 42).toList = [f1, f2, f3] := by
    match h : (Tryz.prog.fieldsOf 42).toList, hf with
    | [x, y, z], _ => exact ⟨x, y, z, rfl⟩
  have hx : (Tryz.prog.fieldsOf 42).toList.map (fun f => (f.name, f.type, f.offset)) = [("Chunk", 24, 0), ("Bits", 24, 1), ("Count", 24, 2)] := by kernel_rfl
  rw [hl] at hx ⊢
  simp only [List.map_cons, List.map_nil, List.cons.injEq, Prod.mk.injEq, and_true] at hx
  obtain ⟨⟨a1, a2, a3⟩, ⟨b1, b2, b3⟩, c1, c2, c3⟩ := hx
  simp only [Op.eqFields, a1, a2, a3, b1, b2, b3, c1, c2, c3]
  have hu : Tryz.prog.underlying 24 = some (.int .u32) := by kernel_rfl
  have hq : Tryz.prog.info? 24 = some ((Tryz.prog.info? 24).getD default) := by kernel_rfl
  simp only [ne_eq, show ¬ ("Chunk" = "_") by decide, show ¬ ("Bits" = "_") by decide, show ¬ ("Count" = "_") by decide, not_false_eq_true, if_true]
  have hp : ∀ (xs : Array Value) (v : Value) (o : Nat), xs[o]? = some v → (part 24 xs o).run Tryz.prog w = .ok v w := by
    intro xs v o h
    exact run_part_plain w (by kernel_rfl) h
  have he : ∀ a b, (Op.equalIn 9999 24 (.int .u32 a) (.int .u32 b)).run Tryz.prog w = .ok (a == b) w := fun a b => run_equalIn_int w 9998 _ .u32 .u32 a b hu
  have h0 : ∀ x y z : Value, (part 24 #[x, y, z] 0).run Tryz.prog w = .ok x w := fun x y z => hp _ _ _ rfl
  have h1 : ∀ x y z : Value, (part 24 #[x, y, z] 1).run Tryz.prog w = .ok y w := fun x y z => hp _ _ _ rfl
  have h2 : ∀ x y z : Value, (part 24 #[x, y, z] 2).run Tryz.prog w = .ok z w := fun x y z => hp _ _ _ rfl
  by_cases ha : a = a' <;> by_cases hb : b = b' <;> by_cases hc : c = c' <;> simp [ha, hb, hc, Sem.run_bind, h0, h1, h2, Result.andThen_ok, he]
theorem place_eql (w : World) (a b c a' b' c' : Int) : (binOp .eql 42 (.agg #[.int .u32 a, .int .u32 b, .int .u32 c]) (.agg #[.int .u32 a', .int .u32 b', .int .u32 c'])).run Tryz.prog w = .ok (.bool (a == a' && b == b' && c == c')) w := by
  rw [run_eql_struct, place_eqIn]; rfl
theorem place_neq (w : World) (a b c a' b' c' : Int) : (binOp .neq 42 (.agg #[.int .u32 a, .int .u32 b, .int .u32 c]) (.agg #[.int .u32 a', .int .u32 b', .int .u32 c'])).run Tryz.prog w = .ok (.bool (!(a == a' && b == b' && c == c'))) w := by
  rw [run_neq_struct, place_eqIn]; rfl
end
end Go.Proofs.YtnihngljmmbenaaGreatDoor
