import Derived.Test.YtnihngljmmbenaaGreatDoorSnO
import Derived.Test.YtnihngljmmbenaaGreatDoorHF
import Derived.Deep.Cut
namespace Go.Proofs.YtnihngljmmbenaaGreatDoor
set_option linter.unusedVariables false
set_option linter.unusedSimpArgs false
open Go.RowKit
attribute [local go_sem] over_drew chg_drew
attribute [local go_sem high] place_eqlN place_neqN

set_option maxRecDepth 100000 in
set_option maxHeartbeats 8000000 in
theorem sendNacks_any (wi : Int) (hwi : 0 ≤ wi ∧ wi ≤ 65535) (si : Int) (hsi : 0 ≤ si ∧ si ≤ 255) (xs : List Opr) (hx : ∀ o ∈ xs, o.wf) (a : Option Addr) (cap : Nat) (ai : Int) (hai : 0 ≤ ai ∧ ai ≤ 255) (w : World) (hT : TabW w) (hs : SlO w a cap xs) :
    Calls Tryz.prog 4 #[.int .u16 wi, .int .u8 si, .slice a xs.length cap, .int .u8 ai] w (Ret w (.bool true)) := by
  obtain ⟨an, rfl, han⟩ : ∃ k : Nat, ai = (k : Nat) ∧ k < 256 := ⟨ai.toNat, by omega, by omega⟩
  obtain ⟨wn, rfl, hwn⟩ : ∃ k : Nat, wi = (k : Nat) ∧ k < 65536 := ⟨wi.toNat, by omega, by omega⟩
  obtain ⟨sn, rfl, hsn⟩ : ∃ k : Nat, si = (k : Nat) ∧ k < 256 := ⟨si.toNat, by omega, by omega⟩
  have HKn := hid (fun (W : World) (hW : ∃ e, W = over w e) => kn15_any W (TabW.ov hT hW))
  have hrc := fun W => rightc_any wn 10 sn hwn (by omega) hsn W
  obtain ⟨CH, hCH⟩ : ∃ k, 1 + sn % 24 = k := ⟨_, rfl⟩
  obtain ⟨WN, hWN⟩ : ∃ k, 1 + wn % 3000 = k := ⟨_, rfl⟩
  obtain ⟨TN, hTN⟩ : ∃ k, 1 + 10 % 1000 = k := ⟨_, rfl⟩
  have hnew := fun W => sNew_yes (cfO wn 10 sn) (cfO_right wn 10 sn) TN (by unfold cfO; rw [hTN]) 1 W
  unfold cfO Cf.v at hnew
  simp only [hCH, hWN, hTN] at hrc hnew
  have HRc : Hid (∀ W, Calls Tryz.prog 13 #[.int .u16 (wn : Nat), .int .u16 10, .int .u8 (sn : Nat)] W (Ret W (.agg #[.int .i64 64, .int .i64 1048576, .int .i64 (CH : Int), .int .i64 (WN : Int), .int .i64 (TN : Int), .int .i64 1048576]))) := hid hrc
  have HNew : Hid (∀ W, Calls Tryz.prog 9 #[.agg #[.int .i64 64, .int .i64 1048576, .int .i64 (CH : Int), .int .i64 (WN : Int), .int .i64 (TN : Int), .int .i64 1048576], .int .u32 1] W (SdNewP W 1 (WN : Int) TN)) := hid hnew
  have hch : 1 ≤ CH ∧ CH ≤ 24 := by omega
  have HLay0 := hid (fun (hl : xs.length ≤ 60) W (hW : ∃ e, W = over w e) => layB_any ((CH : Int) - 1) (by omega) xs hx hl a cap W (TabW.ov hT hW) (Sl.ov hs hW))
  obtain ⟨sz, hsz⟩ : ∃ k, lsz ((CH : Int) - 1) = k := ⟨_, rfl⟩
  have HSZ : Hid (1 ≤ sz ∧ sz ≤ 24) := hid (by rw [← hsz]; unfold lsz; omega)
  rw [hsz] at HLay0
  obtain ⟨ops, hops⟩ : ∃ ops, opsL xs = ops := ⟨_, rfl⟩
  have hol : xs.length ≤ 60 → ops.length ≤ 60 := fun h => by rw [← hops]; unfold opsL; simpa using h
  rw [hops] at HLay0
  have HTN : Hid (TN ≤ 1000) := hid (by rw [← hTN]; omega)
  clear hrc hnew hCH hWN hTN hsz hops hx
  clear hs hT hwi hsi hai
  by_cases hl : 60 < xs.length
  · have hd : decide (60 < xs.length) = true := decide_eq_true hl
    go_enter Tryz.func4, Tryz.ntmps4
    go_wp2_with (go_at_call 10; (with_reducible refine (HKn.out _ ovA).mono ?_); rintro _ _ ⟨⟨e1, rfl⟩, rfl⟩)
    go_ret
    exact ⟨ovA, rfl⟩
  · have hd : decide (60 < xs.length) = false := decide_eq_false hl
    have HLay := hid (HLay0.out (by omega))
    have HOL := hid (hol (by omega))
    clear HLay0 hol
    go_enter Tryz.func4, Tryz.ntmps4
    go_upto_region 6 with (first
      | (go_at_call 10; (with_reducible refine (HKn.out _ ovA).mono ?_); rintro _ _ ⟨⟨e1, rfl⟩, rfl⟩)
      | (go_at_call 13; (with_reducible refine (HRc.out _).mono ?_); rintro _ _ ⟨⟨e2, rfl⟩, rfl⟩)
      | (go_at_call 9
         (with_reducible refine (HNew.out _).mono ?_)
         rintro _ W1 ⟨p, pw, pt, mt, mc, ms, Fw, rfl, hov, hs⟩
         have O1 : Hid (∃ e, W1 = over w e) := hid (by obtain ⟨e, he⟩ := hov; rw [he]; exact ovA)
         have B1 : Hid (Blk W1 (w.heap.size + e1.heap.size + e2.heap.size) [.int .i64 64, .int .i64 1048576, .int .i64 (CH : Int), .int .i64 (WN : Int), .int .i64 (TN : Int), .int .i64 1048576] 23) := hid (by obtain ⟨e, he⟩ := hov; rw [he]; exact (by exact blA))
         have H1 : Hid (SdAt w.heap.size W1 p pw pt mt mc ms Fw (sdNew 1 (WN : Int) TN)) := hid (hs.mono (by simp; try omega))
         have c2 := B1.out.cell 2 rfl
         have cl := B1.out.lt
         have hLay := fun (W : World) (hW : ∃ e, W = over W1 e) => HLay.out W (ov_tr O1.out hW)
         have HLay2 := hid hLay
         clear hov hs HNew hLay)
      | (go_at_call 14
         (with_reducible refine (HLay2.out _ ovA).mono ?_)
         rintro _ W2 ⟨b, mb, L, al, cp, rs, rfl, hov, hbk, hbs, hsl, hrows, hmap⟩
         have hD2 := lay_duo H1.out (sz_over O1.out) ovA hov hbk hbs HSZ.out.1 HOL.out HTN.out
         have hLd := laid_of HSZ.out.1 HOL.out hbk hbs hmap
         have O2 : Hid (∃ e, W2 = over W1 e) := hid (ov_tr ovA hov)
         have hb2 := B1.out.chg (Chg.of_ov O2.out []) (by simp)
         have B2 := hid hb2
         have OW2 : Hid (∃ e, W2 = over w e) := hid (ov_tr O1.out O2.out)
         have HD2 := hid hD2
         have HLd := hid hLd
         have HSl := hid hsl
         have HBS := hid hbs
         have HMp := hid hmap
         have hrl : rs.length ≤ 60 := by rw [hLd.len]; exact hLd.I.len
         clear hov hbk hbs hsl hrows hmap hD2 hLd hb2 c2 cl HLay HLay2 H1)
      | (fail))
    by_cases h0 : rs.length = 0
    · have e0 : ((rs.length : Int) == 0) = true := by rw [beq_iff_eq]; omega
      have e0n : (rs.length == 0) = true := by rw [beq_iff_eq]; exact h0
      clear h0
      go_wp2_with fail
      go_ret
      exact ⟨(ovB OW2.out), rfl⟩
    · have e0 : ((rs.length : Int) == 0) = false := by rw [beq_eq_false_iff_ne]; omega
      have e0n : (rs.length == 0) = false := by rw [beq_eq_false_iff_ne]; exact h0
      have hne0 : layS sz ops ≠ [] := fun hh => h0 (by rw [HLd.out.len, hh]; rfl)
      have hkn : 0 < (ksS (layS sz ops)).length := by
        unfold ksS
        rw [(srtN_perm _).length_eq, List.length_map]
        exact List.length_pos_iff.2 hne0
      obtain ⟨id, ks, hks⟩ : ∃ id ks, ksS (layS sz ops) = id :: ks := by
        cases hq : ksS (layS sz ops) with
        | nil => rw [hq] at hkn; simp at hkn
        | cons x y => exact ⟨x, y, rfl⟩
      have HKS := hid hks
      clear h0 hne0 hkn hks HMp HSl HLd
      obtain ⟨S, hS⟩ : ∃ S, layS sz ops = S := ⟨_, rfl⟩
      rw [hS] at HD2 HKS HBS
      clear hS
      have hid32 : id < 4294967296 := by
        have h1 : id ∈ ksS S := by rw [HKS.out]; simp
        rw [ks_mem, ← HD2.out.ids] at h1
        obtain ⟨x, hx, rfl⟩ := List.mem_map.1 h1
        exact HD2.out.bk.id32 x hx
      go_wp2_with (first
        | (go_at_call 15
           (with_reducible refine (Duo.pump (HD2.out.ov ovA)).mono ?_)
           rintro _ W3 ⟨v3, l3, F3, rfl, hm3, hg3, hd3, hc3, hs3, hn3⟩
           have HD3 := hid hd3
           have hc23 : Chg (sndF p pw pt mt mc ms Fw) W2 W3 := Chg.trans (by exact chA) hc3
           have OW3 : Hid (∃ e, W3 = over w e) := hid (Chg.ov OW2.out hc23 (fun k hk => (HD2.out.sd.lt k hk).1))
           have hser : ∀ (W : World), (∃ e, W = over W3 e) → Calls Tryz.prog 16 #[.pointer (some ⟨b, 0, none⟩)] W (SerRes W (id :: ks)) := fun W hW => by
             have k := series_any (bk_ov hd3.bk hW) (by have := hd3.hL; omega)
             rw [hd3.ids] at k
             rw [← HKS.out]
             exact k
           have HSer := hid hser
           clear hm3 hg3 hd3 hc3 hs3 hn3 hc23 hser)
        | (go_at_call 16
           (with_reducible refine (HSer.out _ ovA).mono ?_)
           rintro _ _ ⟨⟨e4, rfl⟩, v4, rfl, o4⟩
           obtain ⟨a4, c4, rfl, s4⟩ := Own.slice wcs_len o4
           obtain ⟨sb, so, rfl, hsb, q0⟩ := slW_at s4 (k := 0) (by simp)
           simp only [Nat.add_zero, List.getElem_cons_zero] at q0
           clear o4 s4 HSer))
      obtain ⟨m40, hm40⟩ : ∃ m, an % 40 = m := ⟨_, rfl⟩
      have em : Int.tmod (an : Int) 40 = ((m40 : Nat) : Int) := by rw [← hm40]; rfl
      have hm : m40 < 40 := by omega
      refine gen_w ?_
      intro W4 hW4
      have O4 : Hid (∃ e, W4 = over W3 e) := hid (by rw [hW4]; exact ovA)
      obtain ⟨q14, hq14⟩ : ∃ q, q = (over W3 e4).heap.size := ⟨_, rfl⟩
      have B4 : Hid (Blk W4 q14 [.int .u32 0, .int .u32 0, .int .u32 0] 42) := hid (by rw [hW4, hq14]; exact (by exact blA))
      have hq3 : W3.heap.size ≤ q14 := by rw [hq14]; simp
      have HQ3 := hid hq3
      have hok := HD3.out.ok id
      have hcl := HD3.out.cl id
      obtain ⟨s, hs⟩ : ∃ s, getS S id = s := ⟨_, rfl⟩
      rw [hs] at hok hcl
      have HSE := hid hs
      have HOK := hid hok
      have HCL := hid hcl
      rw [show w.heap.size + e1.heap.size + e2.heap.size = w.heap.size + e1.heap.size + e2.heap.size from rfl]
      have hqe : W3.heap.size + e4.heap.size = q14 := by rw [hq14]; simp
      rw [hqe]
      clear hW4 hq14 hm40 hq3 hs hok hcl q0 hsb hqe
      go_loopw [15, 16, 17, 18] (fun i _ _ _ wr => ∃ (k pc pb pn : Nat), k ≤ m40 ∧ i = .int .u8 (k : Nat) ∧ IsPl s ⟨pc, pb, pn⟩ ∧ Blk wr q14 [.int .u32 (pc : Nat), .int .u32 (pb : Nat), .int .u32 (pn : Nat)] 42 ∧ Ov W3 wr) (fun i _ _ _ _ => m40 - (intOf i).toNat)
      case atStart => exact ⟨0, 0, 0, 0, Nat.zero_le _, rfl, isPl_zero HOK.out 0 (Nat.zero_le _), B4.out, O4.out⟩
      case round =>
        obtain ⟨k, pc, pb, pn, hk, rfl, hpl, hbk, hov⟩ := hrel
        have HPL := hid hpl
        have HB := hid hbk
        have HO := hid hov
        have b0 := hbk.cell 0 rfl
        have b1 := hbk.cell 1 rfl
        have b2 := hbk.cell 2 rfl
        have bl := hbk.lt
        have bf : ∀ j, wr.frozen? ⟨q14, j, none⟩ = false := fun j => hbk.free j
        clear hpl hbk hov
        by_cases hlt : k < m40
        · have hd2 : decide (k < m40) = true := decide_eq_true hlt
          obtain ⟨⟨tc, tb, tn⟩, ht⟩ : ∃ x, cutP s ⟨pc, pb, pn⟩ = x := ⟨_, rfl⟩
          have hpl2 := cutP_pl HOK.out HPL.out
          rw [ht] at hpl2
          have HPL2 := hid hpl2
          have HCut := hid (cut_t (bk_ov HD3.out.bk HO.out) (by rw [HD3.out.eq]; exact HSE.out) HPL.out HCL.out ht)
          clear ht hpl2
          go_wp2_with (go_at_call 17; (with_reducible refine (HCut.out _ ovA).mono ?_); rintro _ _ ⟨k0, k1, k2, k3, k4, k5, k6, k7, k8, kn, kc, k9, ka, rfl, ⟨e5, rfl⟩⟩)
          have hq3' := HQ3.out
          go_roundw
          case rel => exact ⟨k + 1, tc, tb, tn, by omega, by go_num, HPL2.out, Blk.alloc (Blk.alloc (Blk.on (((HB.out.set 0 _).set 1 _).set 2 _) _) _) _, (ovB HO.out)⟩
          case measure => (simp [intOf]; try omega)
        · have hd2 : decide (k < m40) = false := decide_eq_false hlt
          clear hlt
          obtain ⟨c, cb, hh⟩ := HPL.out
          have hsum := fun (W : World) (hW : ∃ e, W = over wr e) => sum_any (bk_ov (bk_ov HD3.out.bk HO.out) hW) id (by rw [HD3.out.eq, HSE.out]; exact hh) (by rw [HD3.out.eq, HSE.out]; exact HCL.out)
          obtain ⟨sm, hsm⟩ : ∃ x, sumP c pn = x := ⟨_, rfl⟩
          have HSum : Hid (∀ W, (∃ e, W = over wr e) → Calls Tryz.prog 18 #[.pointer (some ⟨b, 0, none⟩), .int .u32 (id : Nat), .agg #[.int .u32 (pc : Nat), .int .u32 (pb : Nat), .int .u32 (pn : Nat)]] W (Ret W (.tuple #[.int .u64 (sm : Nat), .int .u16 0]))) := hid (by rw [← hsm]; exact hsum)
          have hle := isPl_le HOK.out HPL.out
          simp only at hle
          have hcl900 := HCL.out
          obtain ⟨st1, hst1⟩ : ∃ x, (pump S (ksS S) (sdNew 1 (WN : Int) TN)).2 = x := ⟨_, rfl⟩
          have hkept := HD2.out.kept
          rw [hst1] at hkept
          have hD3 := HD3.out
          rw [hst1] at hD3
          have hDx := hD3.ov HO.out
          have hcz : st1.come id = Pl.zero := by rw [hkept.come]; rfl
          have hgo := takeS_go (S := S) (ks := ksS S) (st := st1) (kd := 5) (e := 1) (u := id) (sum := sm) (p := ⟨pc, pb, pn⟩) (c := c) (b := cb) (.inr rfl) (by rw [hkept.e]; rfl) (by rw [HSE.out]; exact hasS_iff.2 hh) (by rw [hcz]; exact bef_zero _) hsm
          obtain ⟨sE, hsE⟩ : ∃ x, tkS (getS S id) (decide (5 = 5)) st1 id ⟨pc, pb, pn⟩ = x := ⟨_, rfl⟩
          rw [hsE] at hgo
          have hnk : sE.sent id = ⟨pc, pb, pn⟩ ∧ sE.come id = ⟨pc, pb, pn⟩ := by rw [← hsE]; exact tk_nack _ _ _ _
          have htk := fun (W : World) (hW : ∃ e, W = over wr e) => (hDx.ov hW).take 5 1 id sm pc pb pn hid32 (by omega) (by omega) (by omega) 0 0 false none 0 0
          obtain ⟨out, hout⟩ : ∃ x, (pump S (ksS S) sE).1 = x := ⟨_, rfl⟩
          obtain ⟨sF, hsF⟩ : ∃ x, (pump S (ksS S) sE).2 = x := ⟨_, rfl⟩
          obtain ⟨mv, hmv⟩ : ∃ x, bef (st1.come id).w (⟨pc, pb, pn⟩ : Pl).w = x := ⟨_, rfl⟩
          rw [hout, hsF, hmv] at hgo
          rw [hgo] at htk
          have HTk : Hid (∀ W, (∃ e, W = over wr e) → Calls Tryz.prog 19 #[.pointer (some ⟨p, 0, none⟩), .pointer (some ⟨b, 0, none⟩), .agg #[.int .u8 5, .int .u32 1, .int .u32 (id : Nat), .int .u32 (pc : Nat), .int .u32 (pb : Nat), .int .u32 (pn : Nat), .int .u32 0, .bool false, .int .u64 (sm : Nat), .slice none 0 0, .int .i64 0]] W (DuoFr w.heap.size W1.heap.size b 64 sz mb L S p pw pt mt mc ms F3 st1.e out sF 0 (fun v => .tuple #[v, .bool mv, .int .u16 0]) W)) := hid htk
          have hinv : ∀ v, IsPl (getS S v) (sE.sent v) := fun v => by
            have h1 := hDx.inv.pls
            rw [← hsE]
            have hpz : IsPl (getS S id) ⟨pc, pb, pn⟩ := by rw [HSE.out]; exact HPL.out
            unfold tkS
            rw [if_pos (by simp)]
            have h2 : ∀ v, IsPl (getS S v) (((tk1 st1 id ⟨pc, pb, pn⟩).back id).sent v) := isPl_fset h1 (by show IsPl _ (fset st1.come id _ id); rw [fset_get]; exact hpz)
            have h3 : ∀ v, IsPl (getS S v) ((tk3 ((tk1 st1 id ⟨pc, pb, pn⟩).back id) id ⟨pc, pb, pn⟩).sent v) := by
              unfold tk3
              split
              · exact isPl_fset h2 hpz
              · exact h2
            unfold tk4
            split
            · exact h3 v
            · split
              · exact h3 v
              · exact h3 v
          have hpi := pump_is hDx.ok (ksS S) sE hDx.nd (fun v _ => hinv v)
          have hcF : sF.come id = ⟨pc, pb, pn⟩ := by rw [← hsF, hpi.kept.come]; exact hnk.2
          have hph := pump_head (S := S) (ks := ks) (u := id) (st := sE) hDx.ok (by rw [← HKS.out]; exact hDx.nd) (fun v _ => hinv v)
          rw [← HKS.out, hout, HSE.out, hnk.1] at hph
          obtain ⟨fB, hfB⟩ : ∃ x, plB pc pb pn s.fin.chunk s.fin.bits s.fin.count = x := ⟨_, rfl⟩
          have HFB : Hid (fB = true ↔ (⟨pc, pb, pn⟩ : Pl) = s.fin) := hid (by rw [← hfB]; unfold plB; exact decide_eq_true_iff)
          obtain ⟨⟨f0, f1, f2⟩, hfin⟩ : ∃ x, s.fin = x := ⟨_, rfl⟩
          rw [hfin] at hfB
          simp only at hfB
          have HPH := hid hph
          have HCF := hid hcF
          have HFin := hid hfin
          have HBk0 := hid hDx
          have hpq := plB_refl pc pb pn
          clear hsum hsm hkept hD3 hcz hgo hsE hnk htk hout hsF hmv hinv hpi hcF hph hfin hh hle hcl900 hst1 hDx
          have HDX := HBk0
          go_upto_region 18 with (first
            | (go_at_call 18; (with_reducible refine (HSum.out _ ovA).mono ?_); rintro _ _ ⟨⟨e5, rfl⟩, rfl⟩)
            | (go_at_call 19
               (with_reducible refine (HTk.out _ ovA).mono ?_)
               rintro _ W6 ⟨v6, l6, F6, rfl, hm6, hg6, hd6, hc6, hs6, hn6⟩
               have hq6 : q14 ∉ sndF p pw pt mt mc ms F3 := fun hm => by have := (HD3.out.sd.lt q14 hm).2; have := HQ3.out; omega
               have hc6' : Chg (sndF p pw pt mt mc ms F3) wr W6 := Chg.trans (by exact chA) hc6
               have B6 := hid (HB.out.chg hc6' hq6)
               have OW6 : Hid (∃ e, W6 = over w e) := hid (Chg.ov (ov_tr OW3.out HO.out) hc6' (fun k hk => (HD3.out.sd.lt k hk).1))
               have HG6 := hid hg6
               have HM6 := hid hm6
               have hcm := fun (W : World) (hW : ∃ e, W = over W6 e) => sCome_any (hd6.sd.ov hW) id
               rw [HCF.out] at hcm
               have HCm : Hid (∀ W, (∃ e, W = over W6 e) → Calls Tryz.prog 20 #[.pointer (some ⟨p, 0, none⟩), .int .u32 (id : Nat)] W (Ret W (.agg #[.int .u32 (pc : Nat), .int .u32 (pb : Nat), .int .u32 (pn : Nat)]))) := hid hcm
               have hend := fun (W : World) (hW : ∃ e, W = over W6 e) => bend_any (bk_ov hd6.bk hW) id (by rw [hd6.eq, HSE.out]; exact HCL.out)
               rw [hd6.eq, HSE.out, HFin.out] at hend
               have HEnd : Hid (∀ W, (∃ e, W = over W6 e) → Calls Tryz.prog 21 #[.pointer (some ⟨b, 0, none⟩), .int .u32 (id : Nat)] W (Ret W (.agg #[.int .u32 (f0 : Nat), .int .u32 (f1 : Nat), .int .u32 (f2 : Nat)]))) := hid hend
               clear hm6 hg6 hd6 hc6 hs6 hn6 hq6 hc6' hcm hend b0 b1 b2 bl bf HB))
          have d0 := B6.out.cell 0 rfl
          have d1 := B6.out.cell 1 rfl
          have d2 := B6.out.cell 2 rfl
          have dl := B6.out.lt
          go_wp2_with fail
          refine wp_region_over (by kernel_rfl) (by kernel_rfl) ?_
          repeat (go_big_quiet_step ((go_at_call 20; exact quiet_over (HCm.out _ ovA))))
          refine wpQuiet_nil ?_
          intro _ hw'
          obtain ⟨nq, rfl⟩ := hw'
          go_wp2_with fail
          refine wp_region_over (by kernel_rfl) (by kernel_rfl) ?_
          repeat (go_big_quiet_step ((go_at_call 21; exact quiet_over (HEnd.out _ ovA))))
          refine wpQuiet_nil ?_
          intro _ hw'
          obtain ⟨nq, rfl⟩ := hw'
          cases l6 with
          | nil =>
            obtain ⟨a6, c6, rfl, _⟩ := Own.slice (Gx.cs_len _) HG6.out.row
            cases fB with
            | true =>
              go_wp2_with fail
              go_ret
              exact ⟨(ovB OW6.out), rfl⟩
            | false =>
              go_wp2_with fail
              refine wp_region_over (by kernel_rfl) (by kernel_rfl) ?_
              repeat (go_big_quiet_step ((fail)))
              refine wpQuiet_nil ?_
              intro _ hw'
              obtain ⟨nq, rfl⟩ := hw'
              go_wp2_with fail
              go_ret
              exact ⟨(ovB OW6.out), rfl⟩
          | cons x l =>
            obtain ⟨bq, oq, cq, rfl, hbq, hcell⟩ := grs_at HG6.out (k := 0) (by simp)
            have h2 := hcell 2 _ rfl
            have h3 := hcell 3 _ rfl
            have h4 := hcell 4 _ rfl
            have h5 := hcell 5 _ rfl
            simp only [List.getElem_cons_zero, Nat.zero_mul, Nat.add_zero] at h2 h3 h4 h5
            have hxo : out = x.t :: l.map Gx.t := by rw [← HM6.out]; rfl
            obtain ⟨n6, hn6⟩ : ∃ n, (x :: l).length = n + 1 := ⟨l.length, rfl⟩
            rw [hn6]
            have e6 : ((n6 : Int) + 1 == 0) = false := by rw [beq_eq_false_iff_ne]; omega
            have e6n : (n6 + 1 == 0) = false := by rw [beq_eq_false_iff_ne]; omega
            cases fB with
            | true =>
              have hser := HPH.out.1 (HFB.out.1 rfl) x.t (by rw [hxo]; simp)
              obtain ⟨xs_, hxs⟩ : ∃ k, x.t.f.series = k := ⟨_, rfl⟩
              rw [hxs] at hser h2
              have e7 : ((xs_ : Int) != (id : Int)) = true := by rw [bne_iff_ne]; omega
              have e7n : (xs_ != id) = true := by rw [bne_iff_ne]; exact hser
              clear hser hxs hcell hxo
              go_wp2_with fail
              go_ret
              exact ⟨(ovB OW6.out), rfl⟩
            | false =>
              have hnf : (⟨pc, pb, pn⟩ : Pl) ≠ s.fin := fun e => by have := HFB.out.2 e; cases this
              have hse2 : x.t.f.series = id ∧ x.t.f.from_ = ⟨pc, pb, pn⟩ := by
                rcases HPH.out.2 hnf with h9 | ⟨y, l', h9, h10, h11⟩
                · rw [h9] at hxo; cases hxo
                · rw [h9] at hxo
                  injection hxo with h12 h13
                  rw [← h12]; exact ⟨h10, h11⟩
              rw [hse2.1] at h2
              rw [hse2.2] at h3 h4 h5
              simp only at h3 h4 h5
              have e7 : ((id : Int) == (id : Int)) = true := by rw [beq_iff_eq]
              have e7n : (id == id) = true := by rw [beq_iff_eq]
              clear hnf hse2 hcell hxo
              go_wp2_with fail
              refine wp_region_over (by kernel_rfl) (by kernel_rfl) ?_
              repeat (go_big_quiet_step ((fail)))
              refine wpQuiet_nil ?_
              intro _ hw'
              obtain ⟨nq, rfl⟩ := hw'
              go_wp2_with fail
              go_ret
              exact ⟨(ovB OW6.out), rfl⟩
end Go.Proofs.YtnihngljmmbenaaGreatDoor
