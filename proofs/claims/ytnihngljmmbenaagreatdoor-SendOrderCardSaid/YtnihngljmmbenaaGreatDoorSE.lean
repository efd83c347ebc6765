import Derived.Test.YtnihngljmmbenaaGreatDoorSD
import Derived.Test.YtnihngljmmbenaaGreatDoorSA
import Derived.Test.YtnihngljmmbenaaGreatDoorLB
import Derived.Test.YtnihngljmmbenaaGreatDoorHE
namespace Go.Proofs.YtnihngljmmbenaaGreatDoor
set_option linter.unusedVariables false
set_option linter.unusedSimpArgs false
section
open Go.RowKit

structure PmX (base : Nat) (w : World) (p pw pt mt mc ms : Nat) (Fw : List Nat) (ep : Nat) (fs : List Ft) (st : Sd) (v : Value) (wr : World) (l : List Gx) (F1 : List Nat) : Prop where
  map : l.map Gx.t = fs
  grs : GrsAt ep w.heap.size wr v l
  to : SdTo base w p pw pt mt mc ms Fw st wr F1
  sep : ∀ k ∈ grsB v l, k ∉ F1
section
variable {base : Nat} {w : World} {p pw pt mt mc ms : Nat} {Fw : List Nat} {ep : Nat} {fs : List Ft} {st st' : Sd} {v : Value} {wr : World} {l : List Gx} {F1 : List Nat}
theorem PmX.ov (h : PmX base w p pw pt mt mc ms Fw ep fs st v wr l F1) {W : World} (hW : ∃ e, W = over wr e) : PmX base w p pw pt mt mc ms Fw ep fs st v W l F1 := ⟨h.map, h.grs.ov hW, h.to.ov hW, h.sep⟩
theorem PmX.start (h : SdAt base w p pw pt mt mc ms Fw st) : PmX base w p pw pt mt mc ms Fw ep [] st (.slice none 0 0) w [] Fw := ⟨rfl, GrsAt.nil _ _ _, SdTo.refl h, by simp [grsB, Value.ownBlock]⟩
theorem PmX.notF (h : PmX base w p pw pt mt mc ms Fw ep fs st v wr l F1) (h0 : SdAt base w p pw pt mt mc ms Fw st') : ∀ k ∈ grsB v l, k ∉ sndF p pw pt mt mc ms F1 := by
  intro k hk hm
  have h1 := (h.grs.lt k hk).1
  have h2 := h.sep k hk
  have h3 : ∀ i ∈ [p, pt, mt, mc, ms], i < w.heap.size := fun i hi => (h0.lt i (by simp only [sndF, List.mem_cons] at hi ⊢; simp at hi; omega)).2
  simp at h3
  simp only [sndF, List.mem_cons] at hm
  rcases hm with hm | hm | hm | hm | hm | hm
  · omega
  · omega
  · omega
  · omega
  · omega
  · exact h2 hm
theorem PmX.call (h : PmX base w p pw pt mt mc ms Fw ep fs st v wr l F1) (h0 : SdAt base w p pw pt mt mc ms Fw st') {st2 : Sd} {w2 : World} {F2 : List Nat} (k : SdTo base wr p pw pt mt mc ms F1 st2 w2 F2) : PmX base w p pw pt mt mc ms Fw ep fs st2 v w2 l F2 :=
  ⟨h.map, h.grs.chg k.ch (h.notF h0), h.to.trans k, fun i hi hm => by
    rcases k.nw i hm with h1 | h1
    · exact h.sep i hi h1
    · have := (h.grs.lt i hi).2; omega⟩
theorem PmX.push (h : PmX base w p pw pt mt mc ms Fw ep fs st v wr l F1) (h0 : SdAt base w p pw pt mt mc ms Fw st') {b : Nat} {x : Gx} {v' : Value} {W0 W w' : World} (hO : ∃ e, W0 = over wr e) (hx : OwnB b W0 x.bv (pack x.t.f.bits)) (hb : wr.heap.size ≤ b) (hW : ∃ e, W = over W0 e) (hc : Chg v.ownBlock.toList W w')
    (ho : Own w.heap.size 48 11 (Gx.cs ep) w' v' (l ++ [x])) (hv' : v'.ownBlock = v.ownBlock ∨ ∃ g, v'.ownBlock = some g ∧ W.heap.size ≤ g) : PmX base w p pw pt mt mc ms Fw ep (fs ++ [x.t]) st v' w' (l ++ [x]) F1 := by
  have hwz := h.to.sz
  have hF := h.to.at_.lt
  have hnF := h.notF h0
  have hWw := ov_tr hO hW
  have hz := sz_over hWw
  have hxW : OwnB b W x.bv (pack x.t.f.bits) := by obtain ⟨e, rfl⟩ := hW; exact Own.over hx e
  have hg := h.grs.ov hWw
  have hto := h.to.ov hWw
  have hv : ∀ g, v.ownBlock = some g → g < b := fun g hg => by have := (Own.lt h.grs.row hg).2; omega
  have hnv : ∀ k ∈ sndF p pw pt mt mc ms F1, k ∉ v.ownBlock.toList := fun k hk hm => hnF k (by simp only [grsB, List.mem_append]; exact .inl hm) hk
  have hvw : ∀ g ∈ v.ownBlock.toList, w.heap.size ≤ g := fun g hg => (Own.lt h.grs.row (g := g) (by simpa using hg)).1
  refine ⟨by rw [List.map_append, h.map]; rfl, GrsAt.push hg hxW (by omega) hv hc ho hv', ⟨Chg.then hto.ch hc (fun i hi => .inr (hvw i hi)), hto.at_.chg hc hnv, hto.nw⟩, grs_sep (ep := ep) (base := 0) (w' := w') h.sep hxW (fun k hk => by have := (hF k (sndF_w hk)).2; omega) (fun k hk => by have := (hF k (sndF_w hk)).2; omega) hv'⟩
end
theorem slW_at {w : World} {a : Option Addr} {cap : Nat} {xs : List Nat} (h : SlW w a cap xs) {k : Nat} (hk : k < xs.length) : ∃ b off, a = some ⟨b, off, none⟩ ∧ b < w.heap.size ∧ w.cell? ⟨b, off + k, none⟩ = some (.int .u32 (xs[k] : Nat)) := by
  obtain ⟨b, off, rfl, hb, hcell⟩ := h.rec_ k xs[k] (List.getElem?_eq_getElem hk)
  have h0 := hcell 0 _ rfl
  rw [Nat.add_zero, Nat.mul_one] at h0
  exact ⟨b, off, rfl, hb, h0⟩
theorem isPl_le {s : Sr} (hok : SrOk s) {p : Pl} (h : IsPl s p) : p.bits ≤ 3504 ∧ p.count ≤ 24 ∧ p.chunk ≤ s.cl.length := by
  obtain ⟨c, b, hh⟩ := h
  exact has_le hok hh
theorem pc_wf {s : Sr} (hok : SrOk s) (hcl : s.cl.length ≤ 900) {p q : Pl} (hp : IsPl s p) (hq : IsPl s q) {u n : Nat} (hu : u < 4294967296) (hn : n ≤ 3504) : (⟨(u : Nat), p.w, q.w, (n : Nat)⟩ : Pc).wf := by
  have h1 := isPl_le hok hp
  have h2 := isPl_le hok hq
  unfold Pc.wf Pw.wf Pl.w u32ok
  simp only
  omega
theorem pm_fin {base : Nat} {w : World} {b n sz mb : Nat} {L : List Se} (h : BkAt base w b n sz mb L) {u : Nat} {s : Sr} (hs : getS (bkOf L) u = s) {pc pb pn : Nat} (hp : IsPl s ⟨pc, pb, pn⟩) (hcl : s.cl.length ≤ 900) {most : Int} (hmo : -9223372036854775808 ≤ most ∧ most ≤ 9223372036854775807) (hc : cutS s u ⟨pc, pb, pn⟩ most = none) (W : World) (hW : ∃ e, W = over w e) :
    Calls Tryz.prog 17 #[.pointer (some ⟨b, 0, none⟩), .int .u32 (u : Nat), .agg #[.int .u32 (pc : Nat), .int .u32 (pb : Nat), .int .u32 (pn : Nat)], .int .i64 most] W (CutX W 0 0 0 0 0 false 0 [] 0 pc pb pn) := by
  subst hs
  have hq := (cutS_none hp).1 hc
  obtain ⟨c, cl, hh⟩ := hp
  exact cut_fin (bk_ov h hW) u hh hcl hq most
structure PmC (s : Sr) (u : Nat) (pc pb pn : Nat) (most : Int) (fk : Nat) (fcl : Bool) (fsm : Nat) (fbi : List Bool) (tc tb tn : Nat) : Prop where
  cut : cutS s u ⟨pc, pb, pn⟩ most = Option.some (⟨u, ⟨pc, pb, pn⟩, fk, fcl, fsm, fbi⟩, ⟨tc, tb, tn⟩)
  ct : 0 < fk ∧ fk ≤ 24
  len : fbi.length ≤ 3504
  pl : IsPl s ⟨tc, tb, tn⟩
theorem pmc_of {s : Sr} (hok : SrOk s) {u pc pb pn : Nat} {most : Int} {f : Fr} {to : Pl} (hc : cutS s u ⟨pc, pb, pn⟩ most = Option.some (f, to)) : ∃ fk fcl fsm fbi tc tb tn, PmC s u pc pb pn most fk fcl fsm fbi tc tb tn ∧ f = ⟨u, ⟨pc, pb, pn⟩, fk, fcl, fsm, fbi⟩ ∧ to = ⟨tc, tb, tn⟩ := by
  have hk := cutS_ok hok hc
  obtain ⟨fs, fp, fk, fcl, fsm, fbi⟩ := f
  obtain ⟨tc, tb, tn⟩ := to
  have h1 := hk.ser
  have h2 := hk.from_
  simp only at h1 h2
  subst h1 h2
  exact ⟨fk, fcl, fsm, fbi, tc, tb, tn, ⟨hc, ⟨hk.ct, hk.c24⟩, hk.len.2, hk.pl⟩, rfl, rfl⟩
theorem cut_c {base : Nat} {w : World} {b n sz mb : Nat} {L : List Se} (h : BkAt base w b n sz mb L) {u : Nat} {s : Sr} (hs : getS (bkOf L) u = s) {pc pb pn : Nat} (hcl : s.cl.length ≤ 900) {most : Int} (hmo : -9223372036854775808 ≤ most ∧ most ≤ 9223372036854775807) {fk : Nat} {fcl : Bool} {fsm : Nat} {fbi : List Bool} {tc tb tn : Nat} (hc : PmC s u pc pb pn most fk fcl fsm fbi tc tb tn) (W : World) (hW : ∃ e, W = over w e) :
    Calls Tryz.prog 17 #[.pointer (some ⟨b, 0, none⟩), .int .u32 (u : Nat), .agg #[.int .u32 (pc : Nat), .int .u32 (pb : Nat), .int .u32 (pn : Nat)], .int .i64 most] W (CutX W u pc pb pn fk fcl fsm fbi fbi.length tc tb tn) := by
  subst hs
  obtain ⟨hp, c, cl, hh, hf, ht⟩ := cutS_some hc.cut
  have := cut_on (bk_ov h hW) u hh hcl hp most hmo
  rw [← hf, ← ht] at this
  exact this
end
section
open Go.RowKit
attribute [local go_sem] over_drew chg_drew

structure PmO (S : List (Nat × Sr)) (ks : List Nat) (st : Sd) (k : Nat) (fs : List Ft) (st1 : Sd) : Prop where
  le : k ≤ ks.length
  eq : pump S ks st = (fs ++ (pump S (ks.drop k) st1).1, (pump S (ks.drop k) st1).2)
  kept : Kept st st1
  pl : ∀ u, IsPl (getS S u) (st.sent u) → IsPl (getS S u) (st1.sent u)
  len : fs.length ≤ 61 * k
theorem PmO.start (S : List (Nat × Sr)) (ks : List Nat) (st : Sd) : PmO S ks st 0 [] st := ⟨Nat.zero_le _, rfl, Kept.refl _, fun _ h => h, Nat.le_refl _⟩
theorem PmO.end_ {S : List (Nat × Sr)} {ks : List Nat} {st st1 : Sd} {fs : List Ft} (h : PmO S ks st ks.length fs st1) : pump S ks st = (fs, st1) := by
  rw [h.eq, List.drop_length]; simp [pump]
structure PmN (s : Sr) (u : Nat) (st1 : Sd) (j : Nat) (out : List Ft) (st2 : Sd) : Prop where
  i : PmpI s u st1 j out st2
  kept : Kept st1 st2
  pl : IsPl s (st2.sent u)
  other : ∀ i, i ≠ u → st2.sent i = st1.sent i
  len : out.length = j
theorem PmN.start {s : Sr} {u : Nat} {st : Sd} (h : IsPl s (st.sent u)) : PmN s u st 0 [] st := ⟨PmpI.zero _ _ _, Kept.refl _, h, fun _ _ => rfl, rfl⟩
theorem PmN.step {s : Sr} (hok : SrOk s) (ha : s.all.length ≤ 60) {u j : Nat} {st1 st2 : Sd} {out : List Ft} (h : PmN s u st1 j out st2) (hr : st2.room = true) {f : Fr} {to : Pl} (hc : cutS s u (st2.sent u) 1024 = Option.some (f, to)) : PmN s u st1 (j + 1) (out ++ [⟨2, f⟩]) (st2.next u to f.bits.length) := by
  have k := cutS_ok hok hc
  exact ⟨(h.i.step hok hr hc ha).1, h.kept.trans (next_kept _ _ _ _), by rw [next_sent, if_pos rfl]; exact k.pl, fun i hi => by rw [next_sent, if_neg (Ne.symm hi)]; exact h.other i hi, by rw [List.length_append, h.len]; rfl⟩
theorem PmO.step {S : List (Nat × Sr)} {ks : List Nat} {st st1 st2 : Sd} {k j : Nat} {fs out : List Ft} (h : PmO S ks st k fs st1) (hk : k < ks.length) {u : Nat} (hu : ks[k] = u) (hi : PmN (getS S u) u st1 j out st2) (hj : (getS S u).all.length ≤ 60) (he : st2.room = false ∨ cutS (getS S u) u (st2.sent u) 1024 = none) : PmO S ks st (k + 1) (fs ++ out) st2 := by
  have h1 := hi.i.stop he
  have hd : ks.drop k = u :: ks.drop (k + 1) := by rw [List.drop_eq_getElem_cons hk, hu]
  refine ⟨hk, ?_, h.kept.trans hi.kept, fun v hv => ?_, ?_⟩
  · rw [h.eq, hd]
    have h2 : pump S (u :: ks.drop (k + 1)) st1 = ((pumpU (getS S u) u 62 st1).1 ++ (pump S (ks.drop (k + 1)) (pumpU (getS S u) u 62 st1).2).1, (pump S (ks.drop (k + 1)) (pumpU (getS S u) u 62 st1).2).2) := rfl
    rw [h2, h1]
    simp
  · by_cases hvu : v = u
    · subst hvu; exact hi.pl
    · rw [hi.other v hvu]; exact h.pl v hv
  · rw [List.length_append]
    have := h.len
    have := hi.len
    have := hi.i.le
    omega
set_option maxRecDepth 100000 in
set_option maxHeartbeats 8000000 in
theorem sPump_any {base : Nat} {w : World} {p pw pt mt mc ms : Nat} {Fw : List Nat} {st : Sd} (h : SdAt base w p pw pt mt mc ms Fw st) (hb : base ≤ w.heap.size) {b0 b n sz mb : Nat} {L : List Se} (hbk : BkAt b0 w b n sz mb L) (hsep : ∀ k ∈ bkB b mb L, k ∉ sndF p pw pt mt mc ms Fw) (hL : L.length ≤ 1000)
    (hcl : ∀ u, (getS (bkOf L) u).cl.length ≤ 900) (hall : ∀ u, (getS (bkOf L) u).all.length ≤ 60) (hpl : ∀ u ∈ L.map (·.id), IsPl (getS (bkOf L) u) (st.sent u)) (hnow : st.now + st.tk < 18446744073709551616) :
    Calls Tryz.prog 15 #[.pointer (some ⟨p, 0, none⟩), .pointer (some ⟨b, 0, none⟩)] w
      (SdFr base w p pw pt mt mc ms Fw st.e (pump (bkOf L) (srtN (L.map (·.id))) st).1 (pump (bkOf L) (srtN (L.map (·.id))) st).2 (fun v => v)) := by
  have HSer := hid (fun (W : World) (hW : ∃ e, W = over w e) => series_any (bk_ov hbk hW) (by omega))
  have HBK := hid (fun (wr : World) (hc : Chg (sndF p pw pt mt mc ms Fw) w wr) => hbk.cg hc hsep)
  have HOK := hid (fun u => getS_ok hbk u)
  have HID := hid hbk.id32
  have HKS : Hid (∀ u ∈ srtN (L.map (·.id)), u < 4294967296 ∧ IsPl (getS (bkOf L) u) (st.sent u)) := hid (fun u hu => by
    rw [(srtN_perm _).mem_iff] at hu
    refine ⟨?_, hpl u hu⟩
    obtain ⟨x, hx, rfl⟩ := List.mem_map.1 hu
    exact HID.out x hx)
  have hkl : (srtN (L.map (·.id))).length ≤ 1000 := by rw [(srtN_perm _).length_eq, List.length_map]; exact hL
  obtain ⟨ks, hks⟩ : ∃ ks, srtN (L.map (·.id)) = ks := ⟨_, rfl⟩
  rw [hks] at HSer HKS hkl ⊢
  have H0 := hid h
  have HB := hid hb
  have HCL := hid hcl
  have HALL := hid hall
  have HNOW := hid hnow
  have hep : ∃ ep, st.e = ep := ⟨_, rfl⟩
  obtain ⟨ep, hep⟩ := hep
  have HEP := hid hep
  rw [hep]
  have hlt0 := h.lt
  have HLT := hid hlt0
  clear h hb hbk hsep hL hcl hall hpl hnow hks hep HID hlt0
  go_enter Tryz.func15, Tryz.ntmps15
  go_wp2_with (go_at_call 16; (with_reducible refine (HSer.out _ ovA).mono ?_); rintro _ W2 ⟨hov, v2, rfl, o2⟩; obtain ⟨a2, c2, rfl, s2⟩ := Own.slice wcs_len o2; have S2 := hid s2; have O2 := hid hov; have HN2 : Hid (∀ ad, a2 = some ad → ad.block ∉ sndF p pw pt mt mc ms Fw) := hid (fun ad had hm => by subst had; have h1 := (Own.lt o2 (g := ad.block) (by simp [Value.ownBlock])).1; have := (HLT.out _ hm).2; omega); clear o2 s2 hov)
  have H2 := hid (H0.out.ov O2.out)
  have hbW := Nat.le_trans HB.out (sz_over O2.out)
  have HB2 := hid hbW
  have HBK2 := hid (fun (wr : World) (hc : Chg (sndF p pw pt mt mc ms Fw) W2 wr) => HBK.out wr ((Chg.of_ov O2.out _).trans hc))
  have HX := hid (PmX.start (ep := ep) H2.out)
  clear hbW HBK HB
  go_loopw [5, 7, 8, 9, 10, 14] (fun v _ _ _ _ i wr => ∃ (k : Nat) (fs : List Ft) (st1 : Sd) (l : List Gx) (F1 : List Nat), i = .int .i64 (k : Nat) ∧ PmO (bkOf L) ks st k fs st1 ∧ PmX base W2 p pw pt mt mc ms Fw ep fs st1 v wr l F1) (fun _ _ _ _ _ i _ => ks.length - (intOf i).toNat)
  case atStart => exact ⟨0, [], st, [], Fw, rfl, PmO.start _ _ _, HX.out.ov ovA⟩
  case round =>
    obtain ⟨k, fs, st1, l, F1, rfl, hO, hX⟩ := hrel
    have hS : SlW wr a2 c2 ks := Sl.chg S2.out hX.to.ch HN2.out
    have HO := hid hO
    have HS := hid hS
    have hmk := len_max hS
    have hkle := hO.le
    by_cases hlt : k < ks.length
    · obtain ⟨sb, so, rfl, hsb, q0⟩ := slW_at hS hlt
      obtain ⟨u, hu⟩ : ∃ u, ks[k]'hlt = u := ⟨_, rfl⟩
      rw [hu] at q0
      have HU := hid hu
      have hd : decide (k < ks.length) = true := decide_eq_true hlt
      have hku := HKS.out u (by rw [← hu]; exact List.getElem_mem hlt)
      have hu32 := hku.1
      have hpl1 : IsPl (getS (bkOf L) u) (st1.sent u) := hO.pl u hku.2
      have hN0 : PmN (getS (bkOf L) u) u st1 0 [] st1 := PmN.start hpl1
      have HN0 := hid hN0
      have HX1 := hid hX
      have hokS := HOK.out u
      have hallS := HALL.out u
      have hclS := HCL.out u
      have hkept0 := hO.kept
      have HKP := hid hkept0
      have hfl := hO.len
      have hfl2 : fs.length ≤ 61000 := by have := hkl; omega
      clear hu hO hX hS hku hpl1 hN0 hkept0 hfl
      have HS1 : Hid (∃ s, getS (bkOf L) u = s) := hid ⟨_, rfl⟩
      obtain ⟨s, hs⟩ := HS1.out
      have HSE := hid hs
      rw [hs] at hokS hallS hclS HN0
      have HOKS := hid hokS
      have HALLS := hid hallS
      have HCLS := hid hclS
      clear hs hokS hallS hclS HS1
      go_wp2
      go_loopw [5, 8, 9, 10] (fun v _ _ _ wx => ∃ (j : Nat) (out : List Ft) (st2 : Sd) (l : List Gx) (F1 : List Nat), PmN s u st1 j out st2 ∧ PmX base W2 p pw pt mt mc ms Fw ep (fs ++ out) st2 v wx l F1) (fun v _ _ _ _ => 100000 - lenOf v)
      case atStart => exact ⟨0, [], st1, l, F1, HN0.out, by rw [List.append_nil]; exact HX1.out.ov ovA⟩
      case round =>
        obtain ⟨j, out, st2, l2, F2, hN, hX2⟩ := hrel
        have HN := hid hN
        have HX2 := hid hX2
        have HRm := hid (sd_room hX2.to.at_)
        have c0 := hX2.to.at_.blk.cell 0 rfl
        have pl := hX2.to.at_.here.1
        obtain ⟨av, cv, rfl, _⟩ := Own.slice (Gx.cs_len ep) hX2.grs.row
        have hll : l2.length = fs.length + j := by have h1 := congrArg List.length hX2.map; rw [List.length_map, List.length_append, hN.len] at h1; exact h1
        have hjl := hN.i.le
        have hj60 := HALLS.out
        have hl2 : l2.length ≤ 61060 := by omega
        have HLL := hid hll
        clear hll hjl hj60
        cases hroom : st2.room
        · rw [hroom] at HRm
          have HO2 := hid (HO.out.step hlt HU.out (by rw [HSE.out]; exact HN.out) (by rw [HSE.out]; exact HALLS.out) (.inl hroom))
          clear hN hX2
          go_wp2_with (go_at_call 41; (with_reducible refine (HRm.out _ ovA).mono ?_); rintro _ _ ⟨⟨e1, rfl⟩, rfl⟩)
          go_roundw
          case rel => exact ⟨k + 1, _, st2, l2, F2, by go_num, HO2.out, HX2.out.ov ovA⟩
          case measure => (simp [intOf]; try omega)
        · rw [hroom] at HRm
          obtain ⟨m, hm1, hm2⟩ := hX2.to.at_.sm
          have HM := hid hm1
          have hpl2 := hN.pl
          have hm3 := hm2 u
          have HBX := hid (HBK2.out wr hX2.to.ch)
          have d5 := hX2.to.at_.blk.cell 5 rfl
          have HKT : Hid (Kept st st2) := hid (HKP.out.trans hN.kept)
          obtain ⟨pp, hpp⟩ : ∃ q, st2.sent u = q := ⟨_, rfl⟩
          rw [hpp] at hpl2 hm3
          obtain ⟨pc, pb, pn⟩ := pp
          simp only at hm3
          have HPP := hid hpp
          have HV : Hid ((if false = true then (.tuple #[(kGet m u).getD (.agg #[.int .u32 0, .int .u32 0, .int .u32 0]), .bool (kGet m u).isSome] : Value) else (kGet m u).getD (.agg #[.int .u32 0, .int .u32 0, .int .u32 0])) = .agg #[.int .u32 (pc : Nat), .int .u32 (pb : Nat), .int .u32 (pn : Nat)]) := hid hm3
          have HPL := hid hpl2
          have HROOM := hid hroom
          clear hm1 hm2 hm3 hpp hpl2 hN hX2 hroom
          cases hcut : cutS s u ⟨pc, pb, pn⟩ 1024 with
          | none =>
            have HCut := hid (pm_fin HBX.out HSE.out HPL.out HCLS.out (most := 1024) (by omega) hcut)
            have HO2 := hid (HO.out.step hlt HU.out (by rw [HSE.out]; exact HN.out) (by rw [HSE.out]; exact HALLS.out) (.inr (by rw [HSE.out, HPP.out]; exact hcut)))
            clear hcut
            go_wp2_with (first
              | (go_at_call 41; (with_reducible refine (HRm.out _ ovA).mono ?_); rintro _ _ ⟨⟨e1, rfl⟩, rfl⟩)
              | (at_lookup; refine wpList_klookup rfl (.tmp 29) (.tmp 30) 96 false rfl 24 42 (key_u32 (by kernel_rfl)) (by kernel_rfl) (.agg #[.int .u32 0, .int .u32 0, .int .u32 0]) (pl_zero_run _) ms m rfl (MapK.chg (F := []) HM.out (by exact chA) (by simp)) u rfl _ HV.out ?_)
              | (go_at_call 17; (with_reducible refine (HCut.out _ ovA).mono ?_); rintro _ _ ⟨a6, c6, rfl, ⟨e6, rfl⟩, ob6⟩; clear ob6))
            go_roundw
            case rel => exact ⟨k + 1, _, st2, l2, F2, by go_num, HO2.out, HX2.out.ov ovA⟩
            case measure => (simp [intOf]; try omega)
          | some y =>
            obtain ⟨f, to⟩ := y
            obtain ⟨fk, fcl, fsm, fbi, tc, tb, tn, hpc, rfl, rfl⟩ := pmc_of HOKS.out hcut
            have HCut := hid (cut_c HBX.out HSE.out HCLS.out (most := 1024) (by omega) hpc)
            have HPC := hid hpc
            have hfk := hpc.ct
            have q1 : ((fk : Int) == 0) = false := by rw [beq_eq_false_iff_ne]; omega
            have q2 : (fk == 0) = false := by rw [beq_eq_false_iff_ne]; omega
            clear hcut hpc
            go_wp2_with (first
              | (go_at_call 41; (with_reducible refine (HRm.out _ ovA).mono ?_); rintro _ _ ⟨⟨e1, rfl⟩, rfl⟩)
              | (at_lookup; refine wpList_klookup rfl (.tmp 29) (.tmp 30) 96 false rfl 24 42 (key_u32 (by kernel_rfl)) (by kernel_rfl) (.agg #[.int .u32 0, .int .u32 0, .int .u32 0]) (pl_zero_run _) ms m rfl (MapK.chg (F := []) HM.out (by exact chA) (by simp)) u rfl _ HV.out ?_)
              | (go_at_call 17; (with_reducible refine (HCut.out _ ovA).mono ?_); rintro _ w6 ⟨a6, c6, rfl, hov6, ob6⟩; have O6 : Hid (∃ e, w6 = over wr e) := hid (ov_tr ovA hov6); have N6 : Hid (OwnB wr.heap.size w6 (.slice a6 (pack fbi).length c6) (pack fbi)) := hid (Own.mono ob6 (by simp)); clear hov6 ob6))
            refine gen_w ?_
            intro W6 hW6
            obtain ⟨q, hq⟩ : ∃ q, q = w6.heap.size := ⟨_, rfl⟩
            have O66 : Hid (∃ e, W6 = over wr e) := hid (by rw [hW6]; exact (ovB O6.out))
            have B8 : Hid (Blk W6 q [.int .u8 0, .int .u32 0, .int .u32 (u : Nat), .int .u32 (pc : Nat), .int .u32 (pb : Nat), .int .u32 (pn : Nat), .int .u32 (fk : Nat), .bool fcl, .int .u64 (fsm : Nat), .slice a6 (pack fbi).length c6, .int .i64 (fbi.length : Nat)] 48) := hid (by rw [hW6, hq]; exact (by exact blA))
            have B9 : Hid (Blk W6 (q + 1) [.int .u32 (tc : Nat), .int .u32 (tb : Nat), .int .u32 (tn : Nat)] 42) := hid (by rw [hW6, hq]; exact (by exact blA))
            have N66 : Hid (OwnB wr.heap.size W6 (.slice a6 (pack fbi).length c6) (pack fbi)) := hid (by rw [hW6]; exact (by exact ownA N6.out))
            have hqw : wr.heap.size ≤ q := by rw [hq]; exact sz_over O6.out
            have hqb : Hid ((Value.slice a6 (pack fbi).length c6).ownBlock ≠ some q) := hid (fun he => by have := (Own.lt N6.out he).2; omega)
            have hqb1 : Hid ((Value.slice a6 (pack fbi).length c6).ownBlock ≠ some (q + 1)) := hid (fun he => by have := (Own.lt N6.out he).2; omega)
            rw [← hq]
            clear hW6 hq N6 O6 HRm c0 d5 HM HV
            have X66 := hid (HX2.out.ov O66.out)
            have hep6 : st2.e = ep := by rw [HKT.out.e, HEP.out]
            have d2 : W6.cell? ⟨p, 2, none⟩ = some (.int .u32 (ep : Nat)) := by rw [← hep6]; exact X66.out.to.at_.blk.cell 2 rfl
            have p6 := X66.out.to.at_.here.1
            have pq : p ≠ q := by omega
            have e8 := B8.out.lt
            have e80 := B8.out.cell 0 rfl
            have e81 := B8.out.cell 1 rfl
            have ef : ∀ j, W6.frozen? ⟨q, j, none⟩ = false := fun j => B8.out.free j
            have hqn := hid hqw
            obtain ⟨F, hF⟩ : ∃ F, F = [q] := ⟨_, rfl⟩
            have nq : q ∈ F := by rw [hF]; simp
            have np : p ∉ F := by rw [hF]; simpa using pq
            have HF := hid hF
            clear hF hep6 hqw
            go_wp2
            refine M2.wp_region_mixZ (fun w' => ∃ m : Mut, w' = chg F _ m) [5, 7] 8 (by kernel_rfl) (by kernel_rfl) (by decide) (chg_of (Chg.refl _ _)) ?_
            simp only [M2.td]
            with_reducible refine M2.mixL_quiet 5 (by kernel_rfl) ?_
            simp only [M2.td]
            repeat (go_big_quiet_step (fail))
            with_reducible refine wpQuiet_nil ?_
            with_reducible refine M2.mixL_eff (by decide) ?_
            go_wp2_with (fail)
            refine M2.MixQ.mk (chg_of (by exact chA)) ?_
            with_reducible refine M2.mixL_quiet 1 (by kernel_rfl) ?_
            simp only [M2.td]
            repeat (go_big_quiet_step (fail))
            with_reducible refine wpQuiet_nil ?_
            with_reducible refine M2.mixL_eff (by decide) ?_
            go_wp2_with (fail)
            refine M2.MixQ.mk (chg_of (by exact chA)) ?_
            with_reducible refine M2.mixL_nil ?_
            with_reducible refine M2.mixL_nil ?_
            refine gen_w ?_
            intro W7 hW7
            have C67 : Hid (Chg [q] W6 W7) := hid (by rw [hW7]; exact (by exact chA))
            have B87 : Hid (Blk W7 q [.int .u8 2, .int .u32 (ep : Nat), .int .u32 (u : Nat), .int .u32 (pc : Nat), .int .u32 (pb : Nat), .int .u32 (pn : Nat), .int .u32 (fk : Nat), .bool fcl, .int .u64 (fsm : Nat), .slice a6 (pack fbi).length c6, .int .i64 (fbi.length : Nat)] 48) := hid (by rw [hW7]; exact Blk.drew ((B8.out.set 0 _).set 1 _))
            have B97 := hid (B9.out.chg C67.out (by simp))
            have N7 := hid (Own.chg N66.out C67.out (fun g hg hm => by simp at hm; subst hm; exact hqb.out hg))
            have O7 : Hid (∃ e, W7 = over wr e) := hid (Chg.ov O66.out C67.out (by simp; exact hqn.out))
            clear hW7 C67 B8 B9 N66 X66 d2 p6 pq e8 e80 e81 ef nq np HF hqb hqb1 O66
            have r0 := B87.out.cell 0 rfl
            have r1 := B87.out.cell 1 rfl
            have r2 := B87.out.cell 2 rfl
            have r3 := B87.out.cell 3 rfl
            have r4 := B87.out.cell 4 rfl
            have r5 := B87.out.cell 5 rfl
            have r6 := B87.out.cell 6 rfl
            have r7 := B87.out.cell 7 rfl
            have r8 := B87.out.cell 8 rfl
            have r9 := B87.out.cell 9 rfl
            have ra := B87.out.cell 10 rfl
            have rl := B87.out.lt
            have hw27 : W2.heap.size ≤ W7.heap.size := Nat.le_trans HX2.out.to.sz (sz_over O7.out)
            have R7 := hid (HX2.out.grs.ov O7.out).row
            go_wp2_with (
              at_builtin
              refine wpList_append' frame_elem (Gx.cs_len ep) (Gx.cs_one ep) rfl (.tmp 49) (.tmp 51) rfl (base := W2.heap.size) (v := .slice av l2.length cv) (ys := l2) (xs := [(⟨⟨2, ⟨u, ⟨pc, pb, pn⟩, fk, fcl, fsm, fbi⟩⟩, a6, c6⟩ : Gx)]) (by exact ownA R7.out) rfl rfl (by simp only [World.size_alloc, size_over]; omega) (by (repeat with_reducible refine Sl.drew ?_); exact Sl.one_new (y := (⟨⟨2, ⟨u, ⟨pc, pb, pn⟩, fk, fcl, fsm, fbi⟩⟩, a6, c6⟩ : Gx)) (by simp; try omega)) (by simp only [List.length_singleton]; unfold maxLen; omega) (by simp only [List.length_singleton]; omega) ?_
              intro v' m9 ho9 hv9
              have HX9 := hid (PmX.push (x := (⟨⟨2, ⟨u, ⟨pc, pb, pn⟩, fk, fcl, fsm, fbi⟩⟩, a6, c6⟩ : Gx)) HX2.out H2.out O7.out N7.out (Nat.le_refl _) ovA (chg_chg _ _ m9) ho9 hv9)
              clear hv9
              obtain ⟨av9, cv9, rfl, _⟩ := Own.slice (Gx.cs_len ep) ho9
              clear ho9
              refine gen_w ?_
              intro W9 hW9
              have hnv : ∀ j, q ≤ j → j ∉ (Value.slice av l2.length cv).ownBlock.toList := fun j hj hm => by have := (Own.lt HX2.out.grs.row (g := j) (by simpa using hm)).2; have := hqn.out; omega
              have hc79 : Chg (Value.slice av l2.length cv).ownBlock.toList W7 W9 := by rw [hW9]; exact (by exact chA)
              have B89 := hid (B87.out.chg hc79 (hnv q (Nat.le_refl _)))
              have B99 := hid (B97.out.chg hc79 (hnv (q + 1) (by omega)))
              rw [← hW9] at HX9
              clear hW9 hnv hc79 R7 B87 B97 N7 r0 r1 r2 r3 r4 r5 r6 r7 r8 r9 ra rl hw27 O7
              have r0 := B89.out.cell 0 rfl
              have r1 := B89.out.cell 1 rfl
              have r2 := B89.out.cell 2 rfl
              have r3 := B89.out.cell 3 rfl
              have r4 := B89.out.cell 4 rfl
              have r5 := B89.out.cell 5 rfl
              have r6 := B89.out.cell 6 rfl
              have r7 := B89.out.cell 7 rfl
              have r8 := B89.out.cell 8 rfl
              have r9 := B89.out.cell 9 rfl
              have ra := B89.out.cell 10 rfl
              have rl := B89.out.lt
              have z0 := B99.out.cell 0 rfl
              have z1 := B99.out.cell 1 rfl
              have z2 := B99.out.cell 2 rfl
              have zl := B99.out.lt
              obtain ⟨n9, hn9⟩ : ∃ n, (l2 ++ [(⟨⟨2, ⟨u, ⟨pc, pb, pn⟩, fk, fcl, fsm, fbi⟩⟩, a6, c6⟩ : Gx)]).length = n := ⟨_, rfl⟩
              have HN9 : Hid (n9 = l2.length + 1) := hid (by rw [← hn9]; simp)
              rw [hn9] at HX9 ⊢
              clear hn9
              have hx9 := HX9.out
              have hep9 := hid hx9.to.at_
              have hwf : (⟨(u : Nat), (⟨pc, pb, pn⟩ : Pl).w, (⟨tc, tb, tn⟩ : Pl).w, (fbi.length : Nat)⟩ : Pc).wf := pc_wf HOKS.out HCLS.out HPL.out HPC.out.pl hu32 HPC.out.len
              have HWF := hid hwf
              have HWay0 := fun (W : World) (hW : ∃ e, W = over W9 e) => sWay_any (hep9.out.ov hW) (Nat.le_trans (Nat.le_trans HB2.out HX9.out.to.sz) (sz_over hW)) 2 (ep : Nat) (fk : Nat) (fsm : Nat) fcl a6 (pack fbi).length c6 u fbi.length ⟨pc, pb, pn⟩ ⟨tc, tb, tn⟩ HWF.out
              have hst3 : ∃ x, st2.way u ⟨pc, pb, pn⟩ ⟨tc, tb, tn⟩ fbi.length = x := ⟨_, rfl⟩
              obtain ⟨st3, hst3⟩ := hst3
              simp only [hst3] at HWay0
              have HWay := hid HWay0
              have h3n : st3.now + st3.tk < 18446744073709551616 := by rw [← hst3]; show st2.now + st2.tk < _; rw [HKT.out.now, HKT.out.tk]; exact HNOW.out
              have H3N := hid h3n
              have HNX : Hid ({ st3 with ts := tstart st3.ts u st3.now st3.tk } = st2.next u ⟨tc, tb, tn⟩ fbi.length) := hid (by rw [← hst3]; unfold Sd.next; rw [HPP.out]; rfl)
              clear hx9 hep9 hwf HWay0 hst3 h3n HWF)
            go_wp2_with (
              go_at_call 42
              (with_reducible refine (HWay.out _ ovA).mono ?_)
              rintro _ w10 ⟨rfl, F3, hto⟩
              have X10 := hid (HX9.out.call H2.out (SdTo.ov0 (by exact ovA) hto))
              have HSt := hid (sd_start X10.out.to.at_ u H3N.out)
              have d1 := X10.out.to.at_.blk.cell 1 rfl
              have d3 := X10.out.to.at_.blk.cell 3 rfl
              have pl10 := X10.out.to.at_.here.1
              clear hto HWay HX9 r0 r1 r2 r3 r4 r5 r6 r7 r8 r9 ra rl z0 z1 z2 zl B89 B99)
            refine M2.wp_region_mix [9] 9 (by kernel_rfl) (by kernel_rfl) (by decide) ?_
            simp only [M2.td]
            with_reducible refine M2.mixL_quiet 9 (by kernel_rfl) ?_
            simp only [M2.td]
            repeat (go_big_quiet_step (fail))
            with_reducible refine wpQuiet_nil ?_
            with_reducible refine M2.mixL_nil ?_
            with_reducible refine M2.mixL_eff (by decide) ?_
            go_wp2_with ((go_at_call 43; (with_reducible refine (HSt.out _ ovA).mono ?_); rintro _ w11 ⟨⟨v11, rfl⟩, hto, hc11⟩; have X11 := hid (X10.out.call H2.out hto); clear hto hc11 HSt))
            refine M2.MixQ.mk trivial ?_
            with_reducible refine M2.mixL_nil ?_
            go_wp2_with fail
            have hHN := HN.out.step HOKS.out HALLS.out HROOM.out (by rw [HPP.out]; exact HPC.out.cut)
            have HHN := hid hHN
            rw [HNX.out] at X11
            clear hHN
            go_roundw
            case rel => exact ⟨j + 1, _, _, _, F3, HHN.out, by rw [← List.append_assoc]; exact X11.out⟩
            case measure =>
              have := HN9.out
              simp [lenOf]
              omega
    · obtain rfl : k = ks.length := by omega
      have hd : decide (ks.length < ks.length) = false := decide_eq_false (by omega)
      have he := hO.end_
      have HE := hid he
      have hX' := hid hX
      clear he hO hX hS
      go_wp2
      go_ret
      rw [HE.out]
      exact ⟨u5, l, F1, rfl, hX'.out.map, (hX'.out.grs.ov ovA).mono (sz_over O2.out), SdTo.ov0 O2.out (hX'.out.to.ov ovA), hX'.out.sep⟩
end
end Go.Proofs.YtnihngljmmbenaaGreatDoor
