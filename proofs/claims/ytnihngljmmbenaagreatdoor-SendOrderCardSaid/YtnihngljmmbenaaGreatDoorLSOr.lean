import Derived.Test.YtnihngljmmbenaaGreatDoorSnO
import Derived.Test.YtnihngljmmbenaaGreatDoorHF
import Derived.Test.YtnihngljmmbenaaGreatDoorOp5
import Derived.Test.YtnihngljmmbenaaGreatDoorWinR
import Derived.Deep.Cut
namespace Go.Proofs.YtnihngljmmbenaaGreatDoor
set_option linter.unusedVariables false
set_option linter.unusedSimpArgs false
open Go.RowKit
attribute [local go_sem] over_drew chg_drew
attribute [local go_sem high] place_eqlN place_neqN

theorem take_order {S : List (Nat × Sr)} (hok : ∀ u, SrOk (getS S u)) {ks : List Nat} (hn : ks.Nodup) {T : Nat} {st : Sd} (h : SdInv S T st) (kd e u sum : Nat) (p : Pl) :
    bef ((takeS S ks st kd e u p sum).2.come u).w (st.come u).w = false ∧ (takeS S ks st kd e u p sum).1.2.1 = bef (st.come u).w ((takeS S ks st kd e u p sum).2.come u).w := by
  by_cases hb : (kd ≠ 4 ∧ kd ≠ 5) ∨ e ≠ st.e
  · rw [takeS_bad hb]; exact ⟨bef_irr _, (bef_irr _).symm⟩
  · have h1 : kd = 4 ∨ kd = 5 := by omega
    have h2 : e = st.e := by omega
    cases hh : hasS (getS S u) p with
    | none => rw [takeS_no h1 h2 hh]; exact ⟨bef_irr _, (bef_irr _).symm⟩
    | some y =>
      obtain ⟨c, b⟩ := y
      cases hbf : bef p.w (st.come u).w with
      | true => rw [takeS_old h1 h2 hh hbf]; exact ⟨bef_irr _, (bef_irr _).symm⟩
      | false =>
        by_cases hs : sumP c p.count = sum
        · rw [takeS_go h1 h2 hh hbf hs]
          have hp : IsPl (getS S u) p := ⟨c, b, hasS_iff.1 hh⟩
          have hc : (tkS (getS S u) (decide (kd = 5)) st u p).come u = p ∧ ∀ v, IsPl (getS S v) ((tkS (getS S u) (decide (kd = 5)) st u p).sent v) := by
            have h2 : ∀ s2 : Sd, (s2 = (tk1 st u p).back u ∨ s2 = tk1 st u p) → s2.come u = p ∧ ∀ v, IsPl (getS S v) (s2.sent v) := by
              rintro s2 (rfl | rfl)
              · exact ⟨fset_get _ _ _, isPl_fset h.pls (by show IsPl _ (fset st.come u p u); rw [fset_get]; exact hp)⟩
              · exact ⟨fset_get _ _ _, h.pls⟩
            have h3 : ∀ s2 : Sd, (s2.come u = p ∧ ∀ v, IsPl (getS S v) (s2.sent v)) → (tk3 s2 u p).come u = p ∧ ∀ v, IsPl (getS S v) ((tk3 s2 u p).sent v) := by
              intro s2 hs2
              unfold tk3
              split
              · exact ⟨hs2.1, isPl_fset hs2.2 hp⟩
              · exact hs2
            unfold tkS tk4
            have h4 := h3 _ (h2 (if decide (kd = 5) = true then (tk1 st u p).back u else tk1 st u p) (by split; exact .inl rfl; exact .inr rfl))
            split
            · exact h4
            · split
              · exact h4
              · exact h4
          have hk := (pump_is hok ks _ hn (fun v _ => hc.2 v)).kept
          simp only
          rw [hk.come, hc.1]
          exact ⟨hbf, rfl⟩
        · rw [takeS_new h1 h2 hh hbf hs]
          have : (anewS (getS S u) u st).2.come = st.come := by
            unfold anewS
            simp only
            cases cutS (getS S u) u ⟨((st.back u).come u).chunk, 0, 0⟩ 1073741824 with
            | none => rfl
            | some y => rfl
          simp only
          rw [this]
          exact ⟨bef_irr _, (bef_irr _).symm⟩
theorem chg_F {p pw pt mt mc ms : Nat} {F3 F : List Nat} {W3 wo W : World} (h : Chg (sndF p pw pt mt mc ms F3) W3 wo) (hN : ∀ k ∈ F, k ∈ F3 ∨ W3.heap.size ≤ k) (k : Chg (sndF p pw pt mt mc ms F) wo W) : Chg (sndF p pw pt mt mc ms F3) W3 W := by
  refine Chg.then h k (fun i hi => ?_)
  simp only [sndF, List.mem_cons] at hi ⊢
  rcases hi with hi | hi | hi | hi | hi | hi
  · exact .inl (.inl hi)
  · exact .inl (.inr (.inl hi))
  · exact .inl (.inr (.inr (.inl hi)))
  · exact .inl (.inr (.inr (.inr (.inl hi))))
  · exact .inl (.inr (.inr (.inr (.inr (.inl hi)))))
  · rcases hN i hi with h1 | h1
    · exact .inl (.inr (.inr (.inr (.inr (.inr h1)))))
    · exact .inr h1
set_option maxRecDepth 100000 in
set_option maxHeartbeats 16000000 in
theorem sendOrder_any (si : Int) (hsi : 0 ≤ si ∧ si ≤ 255) (xs : List Opr) (hx : ∀ o ∈ xs, o.wf) (a : Option Addr) (cap : Nat) (ys : List Op5) (hy : ∀ o ∈ ys, o.wf) (ay : Option Addr) (cy : Nat) (w : World) (hT : TabW w) (hs : SlO w a cap xs) (hsy : Sl 18 Op5.cs w ay cy ys) :
    Calls Tryz.prog 7 #[.int .u8 si, .slice a xs.length cap, .slice ay ys.length cy] w (Ret w (.bool true)) := by
  obtain ⟨sn, rfl, hsn⟩ : ∃ k : Nat, si = (k : Nat) ∧ k < 256 := ⟨si.toNat, by omega, by omega⟩
  have HKn := hid (fun (W : World) (hW : ∃ e, W = over w e) => kn15_any W (TabW.ov hT hW))
  have hrc := fun W => rightc_any 2000 10 sn (by omega) (by omega) hsn W
  obtain ⟨CH, hCH⟩ : ∃ k, 1 + sn % 24 = k := ⟨_, rfl⟩
  obtain ⟨WN, hWN⟩ : ∃ k, 1 + 2000 % 3000 = k := ⟨_, rfl⟩
  obtain ⟨TN, hTN⟩ : ∃ k, 1 + 10 % 1000 = k := ⟨_, rfl⟩
  have hnew := fun W => sNew_yes (cfO 2000 10 sn) (cfO_right 2000 10 sn) TN (by unfold cfO; rw [hTN]) 7 W
  unfold cfO Cf.v at hnew
  simp only [hCH, hWN, hTN] at hrc hnew
  have HRc : Hid (∀ W, Calls Tryz.prog 13 #[.int .u16 2000, .int .u16 10, .int .u8 (sn : Nat)] W (Ret W (.agg #[.int .i64 64, .int .i64 1048576, .int .i64 (CH : Int), .int .i64 (WN : Int), .int .i64 (TN : Int), .int .i64 1048576]))) := hid hrc
  have HNew : Hid (∀ W, Calls Tryz.prog 9 #[.agg #[.int .i64 64, .int .i64 1048576, .int .i64 (CH : Int), .int .i64 (WN : Int), .int .i64 (TN : Int), .int .i64 1048576], .int .u32 7] W (SdNewP W 7 (WN : Int) TN)) := hid hnew
  have hch : 1 ≤ CH ∧ CH ≤ 24 := by omega
  have HLay0 := hid (fun (hl : xs.length ≤ 60) W (hW : ∃ e, W = over w e) => layE_any ((CH : Int) - 1) (by omega) xs hx hl a cap W (TabW.ov hT hW) (Sl.ov hs hW))
  obtain ⟨sz, hsz⟩ : ∃ k, lsz ((CH : Int) - 1) = k := ⟨_, rfl⟩
  have HSZ : Hid (1 ≤ sz ∧ sz ≤ 24) := hid (by rw [← hsz]; unfold lsz; omega)
  rw [hsz] at HLay0
  obtain ⟨ops, hops⟩ : ∃ ops, opsL xs = ops := ⟨_, rfl⟩
  have hol : xs.length ≤ 60 → ops.length ≤ 60 := fun h => by rw [← hops]; unfold opsL; simpa using h
  rw [hops] at HLay0
  have HWN : Hid (1 ≤ WN ∧ WN ≤ 3000) := hid (by rw [← hWN]; omega)
  have HTN : Hid (TN ≤ 1000) := hid (by rw [← hTN]; omega)
  clear hrc hnew hCH hWN hTN hsz hops hx
  have HSY := hid hsy
  have HY := hid hy
  clear hs hT hsi hsy hy
  by_cases hl : 40 < xs.length
  · have hd : decide (40 < xs.length) = true := decide_eq_true hl
    go_enter Tryz.func7, Tryz.ntmps7
    go_wp2_with (go_at_call 10; (with_reducible refine (HKn.out _ ovA).mono ?_); rintro _ _ ⟨⟨e1, rfl⟩, rfl⟩)
    go_ret
    exact ⟨ovA, rfl⟩
  · have hd : decide (40 < xs.length) = false := decide_eq_false hl
    by_cases hm : 40 < ys.length
    · have hd2 : decide (40 < ys.length) = true := decide_eq_true hm
      go_enter Tryz.func7, Tryz.ntmps7
      go_wp2_with (go_at_call 10; (with_reducible refine (HKn.out _ ovA).mono ?_); rintro _ _ ⟨⟨e1, rfl⟩, rfl⟩)
      go_ret
      exact ⟨ovA, rfl⟩
    · have hd2 : decide (40 < ys.length) = false := decide_eq_false hm
      have HLay := hid (HLay0.out (by omega))
      have HOL := hid (hol (by omega))
      clear HLay0 hol
      go_enter Tryz.func7, Tryz.ntmps7
      go_upto_region 6 with (first
        | (go_at_call 10; (with_reducible refine (HKn.out _ ovA).mono ?_); rintro _ _ ⟨⟨e1, rfl⟩, rfl⟩)
        | (go_at_call 13; (with_reducible refine (HRc.out _).mono ?_); rintro _ _ ⟨⟨e2, rfl⟩, rfl⟩)
        | (go_at_call 9
           (with_reducible refine (HNew.out _).mono ?_)
           rintro _ W1 ⟨p, pw, pt, mt, mc, ms, Fw, rfl, hov, hs⟩
           have O1 : Hid (∃ e, W1 = over w e) := hid (by obtain ⟨e, he⟩ := hov; rw [he]; exact ovA)
           have B1 : Hid (Blk W1 (w.heap.size + e1.heap.size + e2.heap.size) [.int .i64 64, .int .i64 1048576, .int .i64 (CH : Int), .int .i64 (WN : Int), .int .i64 (TN : Int), .int .i64 1048576] 23) := hid (by obtain ⟨e, he⟩ := hov; rw [he]; exact (by exact blA))
           have H1 : Hid (SdAt w.heap.size W1 p pw pt mt mc ms Fw (sdNew 7 (WN : Int) TN)) := hid (hs.mono (by simp; try omega))
           have c2 := B1.out.cell 2 rfl
           have cl := B1.out.lt
           have hLay := fun (W : World) (hW : ∃ e, W = over W1 e) => HLay.out W (ov_tr O1.out hW)
           have HLay2 := hid hLay
           clear hov hs HNew hLay)
        | (go_at_call 14
           (with_reducible refine (HLay2.out _ ovA).mono ?_)
           rintro _ W2 ⟨b, mb, L, al, cp, rs, rfl, hov, hbk, hbs, hsl, hrows, hmap, halo⟩
           have hD2 := lay_duo H1.out (sz_over O1.out) ovA hov hbk hbs HSZ.out.1 HOL.out HTN.out
           have hLd := laid_of HSZ.out.1 HOL.out hbk hbs hmap
           have O2 : Hid (∃ e, W2 = over W1 e) := hid (ov_tr ovA hov)
           have hb2 := B1.out.chg (Chg.of_ov O2.out []) (by simp)
           have B2 := hid hb2
           have OW2 : Hid (∃ e, W2 = over w e) := hid (ov_tr O1.out O2.out)
           have HD2 := hid hD2
           have HLd := hid hLd
           have HSl := hid hsl
           have HBS := hid hbs
           have HMp := hid hmap
           have hav : ∀ ad, al = some ad → ad.block ∉ sndF p pw pt mt mc ms Fw := fun ad had hm => by have h1 := halo ad had; have h2 := (H1.out.lt _ hm).2; (try simp at h1); omega
           have HAV := hid hav
           have hrl : rs.length ≤ 60 := by rw [hLd.len]; exact hLd.I.len
           clear hov hbk hbs hsl hrows hmap halo hav hD2 hLd hb2 c2 cl HLay HLay2 H1)
        | (fail))
      by_cases h0 : rs.length = 0
      · have e0 : ((rs.length : Int) == 0) = true := by rw [beq_iff_eq]; omega
        have e0n : (rs.length == 0) = true := by rw [beq_iff_eq]; exact h0
        clear h0
        go_wp2_with fail
        go_ret
        exact ⟨(ovB OW2.out), rfl⟩
      · have e0 : ((rs.length : Int) == 0) = false := by rw [beq_eq_false_iff_ne]; omega
        have e0n : (rs.length == 0) = false := by rw [beq_eq_false_iff_ne]; exact h0
        have hrp : 0 < rs.length := by omega
        have hid32 : Hid (∀ k, (h : k < rs.length) → rs[k].id < 4294967296) := hid (fun k h => by
          obtain ⟨h2, h3, _⟩ := HLd.out.at_ k h
          rw [h3]
          have h4 : ∀ y ∈ layS sz ops, y.1 < 4294967296 := fun y hy => by
            rw [← HBS.out] at hy
            obtain ⟨x, hx, rfl⟩ := List.mem_map.1 hy
            exact HD2.out.bk.id32 x hx
          exact h4 _ (List.getElem_mem h2))
        clear h0 HMp HLd
        obtain ⟨S, hS⟩ : ∃ S, layS sz ops = S := ⟨_, rfl⟩
        rw [hS] at HD2 HBS
        clear hS
        go_wp2_with (
          go_at_call 15
          (with_reducible refine (Duo.pump (HD2.out.ov ovA)).mono ?_)
          rintro _ W3 ⟨v3, l3, F3, rfl, hm3, hg3, hd3, hc3, hs3, hn3⟩
          have hc23 : Chg (sndF p pw pt mt mc ms Fw) W2 W3 := Chg.trans (by exact chA) hc3
          have OW3 : Hid (∃ e, W3 = over w e) := hid (Chg.ov OW2.out hc23 (fun k hk => (HD2.out.sd.lt k hk).1))
          have hsl3 := Sl.chg HSl.out hc23 HAV.out
          have HSL3 := hid hsl3
          have hav3 : ∀ ad, al = some ad → ad.block < W2.heap.size → ad.block ∉ sndF p pw pt mt mc ms F3 := fun ad had hlt => sep_keep (B := [ad.block]) (N := W2.heap.size) (by simpa using HAV.out ad had) (by simpa using hlt) (fun k hk => by rcases hn3 k hk with h | h; exact .inl h; exact .inr (by (try simp at h); omega)) ad.block (by simp)
          have hke := HD2.out.kept.e
          obtain ⟨st3, hst3⟩ : ∃ x, (pump S (ksS S) (sdNew 7 (WN : Int) TN)).2 = x := ⟨_, rfl⟩
          rw [hst3] at hd3 hke
          have HD3 := hid hd3
          have HE3 : Hid (st3.e = 7) := hid hke
          have HAV3 := hid hav3
          clear hm3 hg3 hd3 hc3 hs3 hn3 hc23 hsl3 hav3 hke hst3)
        have hav4 : ∀ ad, al = some ad → ad.block ∉ sndF p pw pt mt mc ms F3 := fun ad had => by
          obtain ⟨b9, o9, h9, hb9, _⟩ := HSl.out.rec_ 0 rs[0] (List.getElem?_eq_getElem hrp)
          rw [had] at h9
          injection h9 with h9
          exact HAV3.out ad had (by rw [h9]; exact hb9)
        have HAV4 := hid hav4
        clear hav4 HAV3 HAV HSl
        go_loopw [11, 12, 13, 14, 15, 16, 17, 18, 19, 20, 21, 22, 23, 24] (fun i _ _ _ _ _ _ _ _ _ _ _ _ _ wo => ∃ (k : Nat) (st : Sd) (F : List Nat), k ≤ ys.length ∧ i = .int .i64 (k : Nat) ∧ Duo w.heap.size W1.heap.size b 64 sz mb L S p pw pt mt mc ms F st 0 wo ∧ st.e = 7 ∧ Chg (sndF p pw pt mt mc ms F3) W3 wo ∧ (∀ k ∈ F, k ∈ F3 ∨ W3.heap.size ≤ k) ∧ Ov w wo) (fun i _ _ _ _ _ _ _ _ _ _ _ _ _ _ => ys.length - (intOf i).toNat)
        case atStart => exact ⟨0, st3, F3, Nat.zero_le _, rfl, HD3.out.ov ovA, HE3.out, (by exact chA), fun _ h => .inl h, (ovB OW3.out)⟩
        case round =>
          obtain ⟨k, st, F, hk, rfl, hD, hE, hC, hN, hO⟩ := hrel
          obtain ⟨wo, rfl⟩ : ∃ x, x = wr := ⟨_, rfl⟩
          have HD := hid hD
          have HE := hid hE
          have HC := hid hC
          have HN := hid hN
          have HO := hid hO
          have hmk := len_max HSY.out
          by_cases hlt : k < ys.length
          · have hdk : decide (k < ys.length) = true := decide_eq_true hlt
            obtain ⟨bo, oo, rfl, hbo, hcell⟩ := (Sl.ov HSY.out hO).rec_ k ys[k] (List.getElem?_eq_getElem hlt)
            have hw := HY.out _ (List.getElem_mem hlt)
            obtain ⟨o, ho⟩ : ∃ o, ys[k]'hlt = o := ⟨_, rfl⟩
            rw [ho] at hw hcell
            obtain ⟨ok, sr, ox, kd, ep, fs, pc, pb, pn, ct, cl, sm, fa, fl, fc, fN, own, an, on_⟩ := o
            have y1 := hcell 1 _ rfl
            have y4 := hcell 4 _ rfl
            have y5 := hcell 5 _ rfl
            have y6 := hcell 6 _ rfl
            have y7 := hcell 7 _ rfl
            have y8 := hcell 8 _ rfl
            have y9 := hcell 9 _ rfl
            have y10 := hcell 10 _ rfl
            have y11 := hcell 11 _ rfl
            have y12 := hcell 12 _ rfl
            have y13 := hcell 13 _ rfl
            have y14 := hcell 14 _ rfl
            have y15 := hcell 15 _ rfl
            have y16 := hcell 16 _ rfl
            have HW := hid hw
            have Y15 := hid y15
            have HBO := hid hbo
            have hsr32 : sr < 4294967296 := hw.sr
            have hsw : wrap64 (sr : Int) = (sr : Int) := IntWalk.wrap64_in _ ⟨by omega, by omega⟩
            obtain ⟨j, hj0⟩ : ∃ j, sr % rs.length = j := ⟨_, rfl⟩
            have hj : j < rs.length := by rw [← hj0]; exact Nat.mod_lt _ hrp
            have em : Int.tmod (sr : Int) (rs.length : Int) = ((j : Nat) : Int) := by rw [← hj0]; rfl
            obtain ⟨bl, off, hal, hbl, x0, _⟩ := SlR.at_ (Sl.chg HSL3.out hC HAV4.out) hj
            have hi32 := hid32.out j hj
            obtain ⟨id, hidj⟩ : ∃ id, rs[j]'hj = id := ⟨_, rfl⟩
            obtain ⟨id, ra, rc, rl⟩ := id
            rw [hidj] at x0 hi32
            simp only at x0 hi32
            subst hal
            clear ho hw hcell hj0 hidj hD hE hC hN hO
            go_upto_region 15 with (fail)
            refine gen_w ?_
            intro W5 hW5
            obtain ⟨q13, hq13⟩ : ∃ q, q = wo.heap.size := ⟨_, rfl⟩
            have B5 : Hid (Blk W5 q13 [.int .u8 (kd : Nat), .int .u32 (ep : Nat), .int .u32 (id : Nat), .int .u32 (pc : Nat), .int .u32 (pb : Nat), .int .u32 (pn : Nat), .int .u32 ct, .bool cl, .int .u64 (sm : Nat), .slice fa fl fc, .int .i64 fN] 48) := hid (by rw [hW5, hq13]; exact (by exact blA))
            have O5 : Hid (∃ e, W5 = over wo e) := hid (by rw [hW5]; exact ovA)
            have z15 : W5.cell? ⟨bo, oo + k * 18 + 15, none⟩ = some (.bool own) := by obtain ⟨e9, h9⟩ := O5.out; rw [h9, cell_over _ _ _ _ hbo]; exact y15
            have z16 : W5.cell? ⟨bo, oo + k * 18 + 16, none⟩ = some (.int .u8 (an : Nat)) := by obtain ⟨e9, h9⟩ := O5.out; rw [h9, cell_over _ _ _ _ hbo]; exact y16
            have zbo : bo < W5.heap.size := Nat.lt_of_lt_of_le hbo (sz_over O5.out)
            have hq13w : wo.heap.size ≤ q13 := by rw [hq13]; exact Nat.le_refl _
            have HQ13 := hid hq13w
            rw [← hq13]
            clear hW5 hq13 hq13w y1 y4 y5 y6 y7 y8 y9 y10 y11 y12 y13 y14 y15 y16 x0 hbl em hsw hsr32
            by_cases hat : an = 0
            · subst hat
              go_upto_region 23 with (fail)
              refine gen_w ?_
              intro WA hWA
              obtain ⟨PC, hPC⟩ : ∃ x, pc = x := ⟨_, rfl⟩
              obtain ⟨PB, hPB⟩ : ∃ x, pb = x := ⟨_, rfl⟩
              obtain ⟨PN, hPN⟩ : ∃ x, pn = x := ⟨_, rfl⟩
              have hP1 : PC < 4294967296 := by rw [← hPC]; exact HW.out.pc
              have hP2 : PB < 4294967296 := by rw [← hPB]; exact HW.out.pb
              have hP3 : PN < 4294967296 := by rw [← hPN]; exact HW.out.pn
              have HBA := hid (show Blk WA q13 _ _ by rw [hWA]; exact B5.out)
              have OA : Hid (∃ e, WA = over wo e) := hid (by rw [hWA]; exact O5.out)
              rw [hPC, hPB, hPN] at HBA
              rw [← hWA] at z15 zbo
              clear hWA hPC hPB hPN B5 O5
              cases own with
              | false =>
                go_upto_region 26 with (fail)
                refine gen_w ?_
                intro W6 hW6
                have O6A : ∃ e, W6 = over WA e := by rw [hW6]; exact ovA
                have HB6 := hid (Blk.chg HBA.out (Chg.of_ov O6A []) (by simp))
                clear O6A
                have O6 : Hid (∃ e, W6 = over wo e) := hid (by rw [hW6]; exact (ovB OA.out))
                obtain ⟨EP, hEP⟩ : ∃ x, ep = x := ⟨_, rfl⟩
                obtain ⟨SM, hSM⟩ : ∃ x, sm = x := ⟨_, rfl⟩
                rw [hEP, hSM] at HB6
                clear hW6 hEP hSM HBA OA z15 z16 zbo
                have HDx := hid (HD.out.ov O6.out)
                have hr := take_order HD.out.ok HD.out.nd HD.out.inv kd EP id SM ⟨PC, PB, PN⟩
                have hke := (take_kept HD.out.ok HD.out.nd HD.out.inv kd EP id SM ⟨PC, PB, PN⟩).2.2.1
                have hbad : EP ≠ 7 → takeS S (ksS S) st kd EP id ⟨PC, PB, PN⟩ SM = (([], false, 1), st) := fun h => takeS_bad (.inr (by rw [HE.out]; exact h))
                have htk := fun (W : World) (hW : ∃ e, W = over W6 e) => (HDx.out.ov hW).take kd EP id SM PC PB PN hi32 hP1 hP2 hP3 ct fN cl fa fl fc
                obtain ⟨r, hrr⟩ : ∃ r, takeS S (ksS S) st kd EP id ⟨PC, PB, PN⟩ SM = r := ⟨_, rfl⟩
                rw [hrr] at hr hke hbad htk
                obtain ⟨⟨rf, rm, rer⟩, rst⟩ := r
                simp only at hr hke hbad htk
                obtain ⟨⟨c0, c1, c2⟩, hcw⟩ : ∃ x, st.come id = x := ⟨_, rfl⟩
                obtain ⟨wy, hwy⟩ : ∃ x, sumN st.ws = x := ⟨_, rfl⟩
                have HCW := hid hcw
                have HWY := hid hwy
                by_cases h7 : EP = 7
                · have e7 : ((EP : Int) != 7) = false := by rw [bne_eq_false_iff_eq]; omega
                  have e7n : (EP != 7) = false := by rw [bne_eq_false_iff_eq]; exact h7
                  obtain ⟨⟨n0, n1, n2⟩, hcn⟩ : ∃ x, rst.come id = x := ⟨_, rfl⟩
                  obtain ⟨wy2, hwy2⟩ : ∃ x, sumN rst.ws = x := ⟨_, rfl⟩
                  have HCN := hid hcn
                  have HWY2 := hid hwy2
                  have HTk := hid htk
                  have HE8 : Hid (rst.e = 7) := hid (by rw [hke]; exact HE.out)
                  rw [hcw, hcn] at hr
                  have HBf1 : Hid (∀ W, Calls Tryz.prog 27 #[.agg #[.int .u32 (n0 : Nat), .int .u32 (n1 : Nat), .int .u32 (n2 : Nat)], .agg #[.int .u32 (c0 : Nat), .int .u32 (c1 : Nat), .int .u32 (c2 : Nat)]] W (Ret W (.bool false))) := hid (by rw [← hr.1]; exact fun W => rbefore_any (⟨n0, n1, n2⟩ : Pl).w (⟨c0, c1, c2⟩ : Pl).w W)
                  have HBf2 : Hid (∀ W, Calls Tryz.prog 27 #[.agg #[.int .u32 (c0 : Nat), .int .u32 (c1 : Nat), .int .u32 (c2 : Nat)], .agg #[.int .u32 (n0 : Nat), .int .u32 (n1 : Nat), .int .u32 (n2 : Nat)]] W (Ret W (.bool rm))) := hid (by rw [hr.2]; exact fun W => rbefore_any (⟨c0, c1, c2⟩ : Pl).w (⟨n0, n1, n2⟩ : Pl).w W)
                  clear hr hke hbad htk hrr hcw hwy hcn hwy2 h7
                  have HCm1 : Hid (∀ W, (∃ e, W = over W6 e) → Calls Tryz.prog 20 #[.pointer (some ⟨p, 0, none⟩), .int .u32 (id : Nat)] W (Ret W (.agg #[.int .u32 (c0 : Nat), .int .u32 (c1 : Nat), .int .u32 (c2 : Nat)]))) := hid (fun W hW => by
                    have k := sCome_any (HDx.out.ov hW).sd id
                    rw [HCW.out] at k
                    exact k)
                  have HWy1 : Hid (∀ W, (∃ e, W = over W6 e) → Calls Tryz.prog 24 #[.pointer (some ⟨p, 0, none⟩)] W (Ret W (.int .i64 wy))) := hid (fun W hW => by
                    have k := sWayN_any (HDx.out.ov hW).sd
                    rw [HWY.out] at k
                    exact k)
                  have s0 := HB6.out.cell 0 rfl
                  have s1 := HB6.out.cell 1 rfl
                  have s2 := HB6.out.cell 2 rfl
                  have s3 := HB6.out.cell 3 rfl
                  have s4 := HB6.out.cell 4 rfl
                  have s5 := HB6.out.cell 5 rfl
                  have s6 := HB6.out.cell 6 rfl
                  have s7 := HB6.out.cell 7 rfl
                  have s8 := HB6.out.cell 8 rfl
                  have s9 := HB6.out.cell 9 rfl
                  have s10 := HB6.out.cell 10 rfl
                  have sl := HB6.out.lt
                  go_upto_region 28 with (first | (go_at_call 20; (with_reducible refine (HCm1.out _ ovA).mono ?_); rintro _ _ ⟨⟨e6, rfl⟩, rfl⟩) | (go_at_call 24; (with_reducible refine (HWy1.out _ ovA).mono ?_); rintro _ _ ⟨⟨e7, rfl⟩, rfl⟩))
                  refine gen_w ?_
                  intro W7 hW7
                  obtain ⟨q19, hq19⟩ : ∃ q, q = (over W6 e6).heap.size := ⟨_, rfl⟩
                  have B19 : Hid (Blk W7 q19 [.int .u32 (c0 : Nat), .int .u32 (c1 : Nat), .int .u32 (c2 : Nat)] 42) := hid (by rw [hW7, hq19]; exact (by exact blA))
                  have O76 : Hid (∃ e, W7 = over W6 e) := hid (by rw [hW7]; exact ovA)
                  have B13 := hid (Blk.chg HB6.out (Chg.of_ov O76.out []) (by simp))
                  have hq19w : W6.heap.size ≤ q19 := by rw [hq19]; simp
                  have HQ19 := hid hq19w
                  have hqe : W6.heap.size + e6.heap.size = q19 := by rw [hq19]; simp
                  rw [hqe]
                  clear hW7 hq19 hq19w hqe s0 s1 s2 s3 s4 s5 s6 s7 s8 s9 s10 sl HB6 HCm1 HWy1
                  have s0 := B13.out.cell 0 rfl
                  have s1 := B13.out.cell 1 rfl
                  have s2 := B13.out.cell 2 rfl
                  have s3 := B13.out.cell 3 rfl
                  have s4 := B13.out.cell 4 rfl
                  have s5 := B13.out.cell 5 rfl
                  have s6 := B13.out.cell 6 rfl
                  have s7 := B13.out.cell 7 rfl
                  have s8 := B13.out.cell 8 rfl
                  have s9 := B13.out.cell 9 rfl
                  have s10 := B13.out.cell 10 rfl
                  have sl := B13.out.lt
                  go_upto_region 30 with (first
                    | (go_at_call 19
                       (with_reducible refine (HTk.out _ (ov_tr O76.out ovA)).mono ?_)
                       rintro _ W8 ⟨v8, l8, F8, rfl, hm8, hg8, hd8, hc8, hs8, hn8⟩
                       have hc78 : Chg (sndF p pw pt mt mc ms F) W7 W8 := Chg.trans (by exact chA) hc8
                       have hqF : ∀ q, wo.heap.size ≤ q → q ∉ sndF p pw pt mt mc ms F := fun q hq hm => by have := (HD.out.sd.lt q hm).2; omega
                       have B138 := hid (B13.out.chg hc78 (hqF q13 HQ13.out))
                       have B198 := hid (B19.out.chg hc78 (hqF q19 (by have := HQ19.out; have := sz_over O6.out; omega)))
                       have C8 : Hid (Chg (sndF p pw pt mt mc ms F) wo W8) := hid (Chg.trans (Chg.of_ov (ov_tr O6.out O76.out) _) hc78)
                       have HN8 : Hid (∀ k ∈ F8, k ∈ F3 ∨ W3.heap.size ≤ k) := hid (fun k hk => by
                         rcases hn8 k hk with h1 | h1
                         · exact HN.out k h1
                         · right
                           have h2 := HC.out.size
                           have h3 := sz_over (ov_tr O6.out O76.out)
                           (try simp at h1)
                           omega)
                       have HD8 := hid hd8
                       have h8l : l8.length = rf.length := by have := congrArg List.length hm8; simpa using this
                       obtain ⟨a8, c8, rfl, _⟩ := Own.slice (Gx.cs_len _) hg8.row
                       rw [h8l]
                       have HCm2 : Hid (∀ W, (∃ e, W = over W8 e) → Calls Tryz.prog 20 #[.pointer (some ⟨p, 0, none⟩), .int .u32 (id : Nat)] W (Ret W (.agg #[.int .u32 (n0 : Nat), .int .u32 (n1 : Nat), .int .u32 (n2 : Nat)]))) := hid (fun W hW => by
                         have k := sCome_any (hd8.ov hW).sd id
                         rw [HCN.out] at k
                         exact k)
                       have HWy2 : Hid (∀ W, (∃ e, W = over W8 e) → Calls Tryz.prog 24 #[.pointer (some ⟨p, 0, none⟩)] W (Ret W (.int .i64 wy2))) := hid (fun W hW => by
                         have k := sWayN_any (hd8.ov hW).sd
                         rw [HWY2.out] at k
                         exact k)
                       clear hm8 hg8 hd8 hc8 hs8 hn8 hc78 hqF h8l s0 s1 s2 s3 s4 s5 s6 s7 s8 s9 s10 sl HTk)
                    | (go_at_call 20; (with_reducible refine (HCm2.out _ ovA).mono ?_); rintro _ _ ⟨⟨e8, rfl⟩, rfl⟩))
                  refine gen_w ?_
                  intro W9 hW9
                  obtain ⟨q24, hq24⟩ : ∃ q, q = (over W8 e8).heap.size := ⟨_, rfl⟩
                  have B24 : Hid (Blk W9 q24 [.int .u32 (n0 : Nat), .int .u32 (n1 : Nat), .int .u32 (n2 : Nat)] 42) := hid (by rw [hW9, hq24]; exact (by exact blA))
                  have O98 : Hid (∃ e, W9 = over W8 e) := hid (by rw [hW9]; exact ovA)
                  have B139 := hid (Blk.chg B138.out (Chg.of_ov O98.out []) (by simp))
                  have B199 := hid (Blk.chg B198.out (Chg.of_ov O98.out []) (by simp))
                  have hqe : W8.heap.size + e8.heap.size = q24 := by rw [hq24]; simp
                  rw [hqe]
                  clear hW9 hq24 hqe
                  have s1 := B139.out.cell 1 rfl
                  have sl := B139.out.lt
                  have t0 := B199.out.cell 0 rfl
                  have t1 := B199.out.cell 1 rfl
                  have t2 := B199.out.cell 2 rfl
                  have tl := B199.out.lt
                  have u0 := B24.out.cell 0 rfl
                  have u1 := B24.out.cell 1 rfl
                  have u2 := B24.out.cell 2 rfl
                  have ul := B24.out.lt
                  have HWy3 := hid (fun (W : World) (hW : ∃ e, W = over W9 e) => HWy2.out W (ov_tr O98.out hW))
                  go_wp2_with (first | (go_at_call 27; (with_reducible refine (HBf1.out _).mono ?_); rintro _ _ ⟨⟨e9, rfl⟩, rfl⟩) | (go_at_call 27; (with_reducible refine (HBf2.out _).mono ?_); rintro _ _ ⟨⟨e10, rfl⟩, rfl⟩) | (go_at_call 24; (with_reducible refine (HWy3.out _ ovA).mono ?_); rintro _ _ ⟨⟨e11, rfl⟩, rfl⟩))
                  go_roundw
                  case rel => exact ⟨k + 1, rst, F8, by omega, by go_num, HD8.out.ov (ov_tr O98.out ovA), HE8.out, (chg_F HC.out HN.out C8.out).trans (Chg.of_ov (ov_tr O98.out ovA) _), HN8.out, ov_tr (Chg.ov HO.out C8.out (fun i hi => (HD.out.sd.lt i hi).1)) (ov_tr O98.out ovA)⟩
                  case measure => (simp [intOf]; try omega)
                · have e7 : ((EP : Int) != 7) = true := by rw [bne_iff_ne]; omega
                  have e7n : (EP != 7) = true := by rw [bne_iff_ne]; exact h7
                  have hb := hbad h7
                  simp only [Prod.mk.injEq] at hb
                  obtain ⟨⟨hrf, rfl, rfl⟩, rfl⟩ := hb
                  have hrf0 : rf.length = 0 := by rw [hrf]; rfl
                  have hd9 : decide ((0 : Int) < (rf.length : Int)) = false := decide_eq_false (by omega)
                  have hd9n : decide (0 < rf.length) = false := decide_eq_false (by omega)
                  clear hrf hrf0
                  obtain ⟨n0, h0⟩ : ∃ x, c0 = x := ⟨_, rfl⟩
                  obtain ⟨n1, h1⟩ : ∃ x, c1 = x := ⟨_, rfl⟩
                  obtain ⟨n2, h2⟩ : ∃ x, c2 = x := ⟨_, rfl⟩
                  obtain ⟨wy2, h3⟩ : ∃ x, wy = x := ⟨_, rfl⟩
                  have HCN : Hid (rst.come id = ⟨n0, n1, n2⟩) := hid (by rw [← h0, ← h1, ← h2]; exact hcw)
                  have HWY2 : Hid (sumN rst.ws = wy2) := hid (by rw [← h3]; exact hwy)
                  have HTk := hid htk
                  have HE8 : Hid (rst.e = 7) := hid HE.out
                  have HBf1 : Hid (∀ W, Calls Tryz.prog 27 #[.agg #[.int .u32 (n0 : Nat), .int .u32 (n1 : Nat), .int .u32 (n2 : Nat)], .agg #[.int .u32 (c0 : Nat), .int .u32 (c1 : Nat), .int .u32 (c2 : Nat)]] W (Ret W (.bool false))) := hid (by rw [← h0, ← h1, ← h2, ← bef_irr (⟨c0, c1, c2⟩ : Pl).w]; exact fun W => rbefore_any (⟨c0, c1, c2⟩ : Pl).w (⟨c0, c1, c2⟩ : Pl).w W)
                  have HBf2 : Hid (∀ W, Calls Tryz.prog 27 #[.agg #[.int .u32 (c0 : Nat), .int .u32 (c1 : Nat), .int .u32 (c2 : Nat)], .agg #[.int .u32 (n0 : Nat), .int .u32 (n1 : Nat), .int .u32 (n2 : Nat)]] W (Ret W (.bool false))) := hid (by rw [← h0, ← h1, ← h2, ← bef_irr (⟨c0, c1, c2⟩ : Pl).w]; exact fun W => rbefore_any (⟨c0, c1, c2⟩ : Pl).w (⟨c0, c1, c2⟩ : Pl).w W)
                  have hpq : plB n0 n1 n2 c0 c1 c2 = true := by rw [← h0, ← h1, ← h2]; exact plB_refl c0 c1 c2
                  have hww : (wy2 != wy) = false := by rw [← h3, bne_eq_false_iff_eq]
                  clear hr hke hbad htk hrr hcw hwy h7 h0 h1 h2 h3
                  have HCm1 : Hid (∀ W, (∃ e, W = over W6 e) → Calls Tryz.prog 20 #[.pointer (some ⟨p, 0, none⟩), .int .u32 (id : Nat)] W (Ret W (.agg #[.int .u32 (c0 : Nat), .int .u32 (c1 : Nat), .int .u32 (c2 : Nat)]))) := hid (fun W hW => by
                    have k := sCome_any (HDx.out.ov hW).sd id
                    rw [HCW.out] at k
                    exact k)
                  have HWy1 : Hid (∀ W, (∃ e, W = over W6 e) → Calls Tryz.prog 24 #[.pointer (some ⟨p, 0, none⟩)] W (Ret W (.int .i64 wy))) := hid (fun W hW => by
                    have k := sWayN_any (HDx.out.ov hW).sd
                    rw [HWY.out] at k
                    exact k)
                  have s0 := HB6.out.cell 0 rfl
                  have s1 := HB6.out.cell 1 rfl
                  have s2 := HB6.out.cell 2 rfl
                  have s3 := HB6.out.cell 3 rfl
                  have s4 := HB6.out.cell 4 rfl
                  have s5 := HB6.out.cell 5 rfl
                  have s6 := HB6.out.cell 6 rfl
                  have s7 := HB6.out.cell 7 rfl
                  have s8 := HB6.out.cell 8 rfl
                  have s9 := HB6.out.cell 9 rfl
                  have s10 := HB6.out.cell 10 rfl
                  have sl := HB6.out.lt
                  go_upto_region 28 with (first | (go_at_call 20; (with_reducible refine (HCm1.out _ ovA).mono ?_); rintro _ _ ⟨⟨e6, rfl⟩, rfl⟩) | (go_at_call 24; (with_reducible refine (HWy1.out _ ovA).mono ?_); rintro _ _ ⟨⟨e7, rfl⟩, rfl⟩))
                  refine gen_w ?_
                  intro W7 hW7
                  obtain ⟨q19, hq19⟩ : ∃ q, q = (over W6 e6).heap.size := ⟨_, rfl⟩
                  have B19 : Hid (Blk W7 q19 [.int .u32 (c0 : Nat), .int .u32 (c1 : Nat), .int .u32 (c2 : Nat)] 42) := hid (by rw [hW7, hq19]; exact (by exact blA))
                  have O76 : Hid (∃ e, W7 = over W6 e) := hid (by rw [hW7]; exact ovA)
                  have B13 := hid (Blk.chg HB6.out (Chg.of_ov O76.out []) (by simp))
                  have hq19w : W6.heap.size ≤ q19 := by rw [hq19]; simp
                  have HQ19 := hid hq19w
                  have hqe : W6.heap.size + e6.heap.size = q19 := by rw [hq19]; simp
                  rw [hqe]
                  clear hW7 hq19 hq19w hqe s0 s1 s2 s3 s4 s5 s6 s7 s8 s9 s10 sl HB6 HCm1 HWy1
                  have s0 := B13.out.cell 0 rfl
                  have s1 := B13.out.cell 1 rfl
                  have s2 := B13.out.cell 2 rfl
                  have s3 := B13.out.cell 3 rfl
                  have s4 := B13.out.cell 4 rfl
                  have s5 := B13.out.cell 5 rfl
                  have s6 := B13.out.cell 6 rfl
                  have s7 := B13.out.cell 7 rfl
                  have s8 := B13.out.cell 8 rfl
                  have s9 := B13.out.cell 9 rfl
                  have s10 := B13.out.cell 10 rfl
                  have sl := B13.out.lt
                  go_upto_region 30 with (first
                    | (go_at_call 19
                       (with_reducible refine (HTk.out _ (ov_tr O76.out ovA)).mono ?_)
                       rintro _ W8 ⟨v8, l8, F8, rfl, hm8, hg8, hd8, hc8, hs8, hn8⟩
                       have hc78 : Chg (sndF p pw pt mt mc ms F) W7 W8 := Chg.trans (by exact chA) hc8
                       have hqF : ∀ q, wo.heap.size ≤ q → q ∉ sndF p pw pt mt mc ms F := fun q hq hm => by have := (HD.out.sd.lt q hm).2; omega
                       have B138 := hid (B13.out.chg hc78 (hqF q13 HQ13.out))
                       have B198 := hid (B19.out.chg hc78 (hqF q19 (by have := HQ19.out; have := sz_over O6.out; omega)))
                       have C8 : Hid (Chg (sndF p pw pt mt mc ms F) wo W8) := hid (Chg.trans (Chg.of_ov (ov_tr O6.out O76.out) _) hc78)
                       have HN8 : Hid (∀ k ∈ F8, k ∈ F3 ∨ W3.heap.size ≤ k) := hid (fun k hk => by
                         rcases hn8 k hk with h1 | h1
                         · exact HN.out k h1
                         · right
                           have h2 := HC.out.size
                           have h3 := sz_over (ov_tr O6.out O76.out)
                           (try simp at h1)
                           omega)
                       have HD8 := hid hd8
                       have h8l : l8.length = rf.length := by have := congrArg List.length hm8; simpa using this
                       obtain ⟨a8, c8, rfl, _⟩ := Own.slice (Gx.cs_len _) hg8.row
                       rw [h8l]
                       have HCm2 : Hid (∀ W, (∃ e, W = over W8 e) → Calls Tryz.prog 20 #[.pointer (some ⟨p, 0, none⟩), .int .u32 (id : Nat)] W (Ret W (.agg #[.int .u32 (n0 : Nat), .int .u32 (n1 : Nat), .int .u32 (n2 : Nat)]))) := hid (fun W hW => by
                         have k := sCome_any (hd8.ov hW).sd id
                         rw [HCN.out] at k
                         exact k)
                       have HWy2 : Hid (∀ W, (∃ e, W = over W8 e) → Calls Tryz.prog 24 #[.pointer (some ⟨p, 0, none⟩)] W (Ret W (.int .i64 wy2))) := hid (fun W hW => by
                         have k := sWayN_any (hd8.ov hW).sd
                         rw [HWY2.out] at k
                         exact k)
                       clear hm8 hg8 hd8 hc8 hs8 hn8 hc78 hqF h8l s0 s1 s2 s3 s4 s5 s6 s7 s8 s9 s10 sl HTk)
                    | (go_at_call 20; (with_reducible refine (HCm2.out _ ovA).mono ?_); rintro _ _ ⟨⟨e8, rfl⟩, rfl⟩))
                  refine gen_w ?_
                  intro W9 hW9
                  obtain ⟨q24, hq24⟩ : ∃ q, q = (over W8 e8).heap.size := ⟨_, rfl⟩
                  have B24 : Hid (Blk W9 q24 [.int .u32 (n0 : Nat), .int .u32 (n1 : Nat), .int .u32 (n2 : Nat)] 42) := hid (by rw [hW9, hq24]; exact (by exact blA))
                  have O98 : Hid (∃ e, W9 = over W8 e) := hid (by rw [hW9]; exact ovA)
                  have B139 := hid (Blk.chg B138.out (Chg.of_ov O98.out []) (by simp))
                  have B199 := hid (Blk.chg B198.out (Chg.of_ov O98.out []) (by simp))
                  have hqe : W8.heap.size + e8.heap.size = q24 := by rw [hq24]; simp
                  rw [hqe]
                  clear hW9 hq24 hqe
                  have s1 := B139.out.cell 1 rfl
                  have sl := B139.out.lt
                  have t0 := B199.out.cell 0 rfl
                  have t1 := B199.out.cell 1 rfl
                  have t2 := B199.out.cell 2 rfl
                  have tl := B199.out.lt
                  have u0 := B24.out.cell 0 rfl
                  have u1 := B24.out.cell 1 rfl
                  have u2 := B24.out.cell 2 rfl
                  have ul := B24.out.lt
                  have HWy3 := hid (fun (W : World) (hW : ∃ e, W = over W9 e) => HWy2.out W (ov_tr O98.out hW))
                  go_wp2_with (first | (go_at_call 27; (with_reducible refine (HBf1.out _).mono ?_); rintro _ _ ⟨⟨e9, rfl⟩, rfl⟩) | (go_at_call 27; (with_reducible refine (HBf2.out _).mono ?_); rintro _ _ ⟨⟨e10, rfl⟩, rfl⟩) | (go_at_call 24; (with_reducible refine (HWy3.out _ ovA).mono ?_); rintro _ _ ⟨⟨e11, rfl⟩, rfl⟩))
                  go_roundw
                  case rel => exact ⟨k + 1, rst, F8, by omega, by go_num, HD8.out.ov (ov_tr O98.out ovA), HE8.out, (chg_F HC.out HN.out C8.out).trans (Chg.of_ov (ov_tr O98.out ovA) _), HN8.out, ov_tr (Chg.ov HO.out C8.out (fun i hi => (HD.out.sd.lt i hi).1)) (ov_tr O98.out ovA)⟩
                  case measure => (simp [intOf]; try omega)
              | true =>
                obtain ⟨sv, er, hsv⟩ : ∃ sv er : Nat, ∀ W, (∃ e, W = over wo e) → Calls Tryz.prog 18 #[.pointer (some ⟨b, 0, none⟩), .int .u32 (id : Nat), .agg #[.int .u32 (PC : Nat), .int .u32 (PB : Nat), .int .u32 (PN : Nat)]] W (Ret W (.tuple #[.int .u64 (sv : Nat), .int .u16 (er : Nat)])) := by
                  have hcl9 : (getS (bkOf L) id).cl.length ≤ 900 := by rw [HD.out.eq]; exact HD.out.cl id
                  cases hh : hasS (getS (bkOf L) id) ⟨PC, PB, PN⟩ with
                  | none => exact ⟨0, 122, fun W hW => bsum_no (bk_ov HD.out.bk hW) id hP1 hP2 hP3 hh hcl9⟩
                  | some y => exact ⟨sumP y.1 PN, 0, fun W hW => sum_any (bk_ov HD.out.bk hW) id (hasS_iff.1 hh) hcl9⟩
                have HSum := hid hsv
                have s0 := HBA.out.cell 0 rfl
                have s1 := HBA.out.cell 1 rfl
                have s3 := HBA.out.cell 3 rfl
                have s4 := HBA.out.cell 4 rfl
                have s5 := HBA.out.cell 5 rfl
                have s8 := HBA.out.cell 8 rfl
                have sl := HBA.out.lt
                have sf : ∀ j, WA.frozen? ⟨q13, j, none⟩ = false := fun j => HBA.out.free j
                have hq13b := HQ13.out
                clear hsv
                go_upto_region 26 with (go_at_call 18; (with_reducible refine (HSum.out _ (ovB OA.out)).mono ?_); rintro _ _ ⟨⟨e5, rfl⟩, rfl⟩)
                refine gen_w ?_
                intro W6 hW6
                have HB6 : Hid (Blk W6 q13 [.int .u8 (kd : Nat), .int .u32 ((7 : Nat) : Int), .int .u32 (id : Nat), .int .u32 (PC : Nat), .int .u32 (PB : Nat), .int .u32 (PN : Nat), .int .u32 ct, .bool cl, .int .u64 (sv : Nat), .slice fa fl fc, .int .i64 fN] 48) := hid (by rw [hW6]; first | exact Blk.on ((HBA.out.set 1 _).set 8 _) _ | exact (Blk.on (HBA.out.set 1 _) _).set 8 _)
                have O6 : Hid (∃ e, W6 = over wo e) := hid (by rw [hW6]; exact (ovB OA.out))
                obtain ⟨EP, hEP⟩ : ∃ x, 7 = x := ⟨_, rfl⟩
                obtain ⟨SM, hSM⟩ : ∃ x, sv = x := ⟨_, rfl⟩
                rw [hEP, hSM] at HB6
                clear hW6 hEP hSM HBA OA z15 z16 zbo HSum s0 s1 s3 s4 s5 s8 sl sf hq13b
                have HDx := hid (HD.out.ov O6.out)
                have hr := take_order HD.out.ok HD.out.nd HD.out.inv kd EP id SM ⟨PC, PB, PN⟩
                have hke := (take_kept HD.out.ok HD.out.nd HD.out.inv kd EP id SM ⟨PC, PB, PN⟩).2.2.1
                have hbad : EP ≠ 7 → takeS S (ksS S) st kd EP id ⟨PC, PB, PN⟩ SM = (([], false, 1), st) := fun h => takeS_bad (.inr (by rw [HE.out]; exact h))
                have htk := fun (W : World) (hW : ∃ e, W = over W6 e) => (HDx.out.ov hW).take kd EP id SM PC PB PN hi32 hP1 hP2 hP3 ct fN cl fa fl fc
                obtain ⟨r, hrr⟩ : ∃ r, takeS S (ksS S) st kd EP id ⟨PC, PB, PN⟩ SM = r := ⟨_, rfl⟩
                rw [hrr] at hr hke hbad htk
                obtain ⟨⟨rf, rm, rer⟩, rst⟩ := r
                simp only at hr hke hbad htk
                obtain ⟨⟨c0, c1, c2⟩, hcw⟩ : ∃ x, st.come id = x := ⟨_, rfl⟩
                obtain ⟨wy, hwy⟩ : ∃ x, sumN st.ws = x := ⟨_, rfl⟩
                have HCW := hid hcw
                have HWY := hid hwy
                by_cases h7 : EP = 7
                · have e7 : ((EP : Int) != 7) = false := by rw [bne_eq_false_iff_eq]; omega
                  have e7n : (EP != 7) = false := by rw [bne_eq_false_iff_eq]; exact h7
                  obtain ⟨⟨n0, n1, n2⟩, hcn⟩ : ∃ x, rst.come id = x := ⟨_, rfl⟩
                  obtain ⟨wy2, hwy2⟩ : ∃ x, sumN rst.ws = x := ⟨_, rfl⟩
                  have HCN := hid hcn
                  have HWY2 := hid hwy2
                  have HTk := hid htk
                  have HE8 : Hid (rst.e = 7) := hid (by rw [hke]; exact HE.out)
                  rw [hcw, hcn] at hr
                  have HBf1 : Hid (∀ W, Calls Tryz.prog 27 #[.agg #[.int .u32 (n0 : Nat), .int .u32 (n1 : Nat), .int .u32 (n2 : Nat)], .agg #[.int .u32 (c0 : Nat), .int .u32 (c1 : Nat), .int .u32 (c2 : Nat)]] W (Ret W (.bool false))) := hid (by rw [← hr.1]; exact fun W => rbefore_any (⟨n0, n1, n2⟩ : Pl).w (⟨c0, c1, c2⟩ : Pl).w W)
                  have HBf2 : Hid (∀ W, Calls Tryz.prog 27 #[.agg #[.int .u32 (c0 : Nat), .int .u32 (c1 : Nat), .int .u32 (c2 : Nat)], .agg #[.int .u32 (n0 : Nat), .int .u32 (n1 : Nat), .int .u32 (n2 : Nat)]] W (Ret W (.bool rm))) := hid (by rw [hr.2]; exact fun W => rbefore_any (⟨c0, c1, c2⟩ : Pl).w (⟨n0, n1, n2⟩ : Pl).w W)
                  clear hr hke hbad htk hrr hcw hwy hcn hwy2 h7
                  have HCm1 : Hid (∀ W, (∃ e, W = over W6 e) → Calls Tryz.prog 20 #[.pointer (some ⟨p, 0, none⟩), .int .u32 (id : Nat)] W (Ret W (.agg #[.int .u32 (c0 : Nat), .int .u32 (c1 : Nat), .int .u32 (c2 : Nat)]))) := hid (fun W hW => by
                    have k := sCome_any (HDx.out.ov hW).sd id
                    rw [HCW.out] at k
                    exact k)
                  have HWy1 : Hid (∀ W, (∃ e, W = over W6 e) → Calls Tryz.prog 24 #[.pointer (some ⟨p, 0, none⟩)] W (Ret W (.int .i64 wy))) := hid (fun W hW => by
                    have k := sWayN_any (HDx.out.ov hW).sd
                    rw [HWY.out] at k
                    exact k)
                  have s0 := HB6.out.cell 0 rfl
                  have s1 := HB6.out.cell 1 rfl
                  have s2 := HB6.out.cell 2 rfl
                  have s3 := HB6.out.cell 3 rfl
                  have s4 := HB6.out.cell 4 rfl
                  have s5 := HB6.out.cell 5 rfl
                  have s6 := HB6.out.cell 6 rfl
                  have s7 := HB6.out.cell 7 rfl
                  have s8 := HB6.out.cell 8 rfl
                  have s9 := HB6.out.cell 9 rfl
                  have s10 := HB6.out.cell 10 rfl
                  have sl := HB6.out.lt
                  go_upto_region 28 with (first | (go_at_call 20; (with_reducible refine (HCm1.out _ ovA).mono ?_); rintro _ _ ⟨⟨e6, rfl⟩, rfl⟩) | (go_at_call 24; (with_reducible refine (HWy1.out _ ovA).mono ?_); rintro _ _ ⟨⟨e7, rfl⟩, rfl⟩))
                  refine gen_w ?_
                  intro W7 hW7
                  obtain ⟨q19, hq19⟩ : ∃ q, q = (over W6 e6).heap.size := ⟨_, rfl⟩
                  have B19 : Hid (Blk W7 q19 [.int .u32 (c0 : Nat), .int .u32 (c1 : Nat), .int .u32 (c2 : Nat)] 42) := hid (by rw [hW7, hq19]; exact (by exact blA))
                  have O76 : Hid (∃ e, W7 = over W6 e) := hid (by rw [hW7]; exact ovA)
                  have B13 := hid (Blk.chg HB6.out (Chg.of_ov O76.out []) (by simp))
                  have hq19w : W6.heap.size ≤ q19 := by rw [hq19]; simp
                  have HQ19 := hid hq19w
                  have hqe : W6.heap.size + e6.heap.size = q19 := by rw [hq19]; simp
                  rw [hqe]
                  clear hW7 hq19 hq19w hqe s0 s1 s2 s3 s4 s5 s6 s7 s8 s9 s10 sl HB6 HCm1 HWy1
                  have s0 := B13.out.cell 0 rfl
                  have s1 := B13.out.cell 1 rfl
                  have s2 := B13.out.cell 2 rfl
                  have s3 := B13.out.cell 3 rfl
                  have s4 := B13.out.cell 4 rfl
                  have s5 := B13.out.cell 5 rfl
                  have s6 := B13.out.cell 6 rfl
                  have s7 := B13.out.cell 7 rfl
                  have s8 := B13.out.cell 8 rfl
                  have s9 := B13.out.cell 9 rfl
                  have s10 := B13.out.cell 10 rfl
                  have sl := B13.out.lt
                  go_upto_region 30 with (first
                    | (go_at_call 19
                       (with_reducible refine (HTk.out _ (ov_tr O76.out ovA)).mono ?_)
                       rintro _ W8 ⟨v8, l8, F8, rfl, hm8, hg8, hd8, hc8, hs8, hn8⟩
                       have hc78 : Chg (sndF p pw pt mt mc ms F) W7 W8 := Chg.trans (by exact chA) hc8
                       have hqF : ∀ q, wo.heap.size ≤ q → q ∉ sndF p pw pt mt mc ms F := fun q hq hm => by have := (HD.out.sd.lt q hm).2; omega
                       have B138 := hid (B13.out.chg hc78 (hqF q13 HQ13.out))
                       have B198 := hid (B19.out.chg hc78 (hqF q19 (by have := HQ19.out; have := sz_over O6.out; omega)))
                       have C8 : Hid (Chg (sndF p pw pt mt mc ms F) wo W8) := hid (Chg.trans (Chg.of_ov (ov_tr O6.out O76.out) _) hc78)
                       have HN8 : Hid (∀ k ∈ F8, k ∈ F3 ∨ W3.heap.size ≤ k) := hid (fun k hk => by
                         rcases hn8 k hk with h1 | h1
                         · exact HN.out k h1
                         · right
                           have h2 := HC.out.size
                           have h3 := sz_over (ov_tr O6.out O76.out)
                           (try simp at h1)
                           omega)
                       have HD8 := hid hd8
                       have h8l : l8.length = rf.length := by have := congrArg List.length hm8; simpa using this
                       obtain ⟨a8, c8, rfl, _⟩ := Own.slice (Gx.cs_len _) hg8.row
                       rw [h8l]
                       have HCm2 : Hid (∀ W, (∃ e, W = over W8 e) → Calls Tryz.prog 20 #[.pointer (some ⟨p, 0, none⟩), .int .u32 (id : Nat)] W (Ret W (.agg #[.int .u32 (n0 : Nat), .int .u32 (n1 : Nat), .int .u32 (n2 : Nat)]))) := hid (fun W hW => by
                         have k := sCome_any (hd8.ov hW).sd id
                         rw [HCN.out] at k
                         exact k)
                       have HWy2 : Hid (∀ W, (∃ e, W = over W8 e) → Calls Tryz.prog 24 #[.pointer (some ⟨p, 0, none⟩)] W (Ret W (.int .i64 wy2))) := hid (fun W hW => by
                         have k := sWayN_any (hd8.ov hW).sd
                         rw [HWY2.out] at k
                         exact k)
                       clear hm8 hg8 hd8 hc8 hs8 hn8 hc78 hqF h8l s0 s1 s2 s3 s4 s5 s6 s7 s8 s9 s10 sl HTk)
                    | (go_at_call 20; (with_reducible refine (HCm2.out _ ovA).mono ?_); rintro _ _ ⟨⟨e8, rfl⟩, rfl⟩))
                  refine gen_w ?_
                  intro W9 hW9
                  obtain ⟨q24, hq24⟩ : ∃ q, q = (over W8 e8).heap.size := ⟨_, rfl⟩
                  have B24 : Hid (Blk W9 q24 [.int .u32 (n0 : Nat), .int .u32 (n1 : Nat), .int .u32 (n2 : Nat)] 42) := hid (by rw [hW9, hq24]; exact (by exact blA))
                  have O98 : Hid (∃ e, W9 = over W8 e) := hid (by rw [hW9]; exact ovA)
                  have B139 := hid (Blk.chg B138.out (Chg.of_ov O98.out []) (by simp))
                  have B199 := hid (Blk.chg B198.out (Chg.of_ov O98.out []) (by simp))
                  have hqe : W8.heap.size + e8.heap.size = q24 := by rw [hq24]; simp
                  rw [hqe]
                  clear hW9 hq24 hqe
                  have s1 := B139.out.cell 1 rfl
                  have sl := B139.out.lt
                  have t0 := B199.out.cell 0 rfl
                  have t1 := B199.out.cell 1 rfl
                  have t2 := B199.out.cell 2 rfl
                  have tl := B199.out.lt
                  have u0 := B24.out.cell 0 rfl
                  have u1 := B24.out.cell 1 rfl
                  have u2 := B24.out.cell 2 rfl
                  have ul := B24.out.lt
                  have HWy3 := hid (fun (W : World) (hW : ∃ e, W = over W9 e) => HWy2.out W (ov_tr O98.out hW))
                  go_wp2_with (first | (go_at_call 27; (with_reducible refine (HBf1.out _).mono ?_); rintro _ _ ⟨⟨e9, rfl⟩, rfl⟩) | (go_at_call 27; (with_reducible refine (HBf2.out _).mono ?_); rintro _ _ ⟨⟨e10, rfl⟩, rfl⟩) | (go_at_call 24; (with_reducible refine (HWy3.out _ ovA).mono ?_); rintro _ _ ⟨⟨e11, rfl⟩, rfl⟩))
                  go_roundw
                  case rel => exact ⟨k + 1, rst, F8, by omega, by go_num, HD8.out.ov (ov_tr O98.out ovA), HE8.out, (chg_F HC.out HN.out C8.out).trans (Chg.of_ov (ov_tr O98.out ovA) _), HN8.out, ov_tr (Chg.ov HO.out C8.out (fun i hi => (HD.out.sd.lt i hi).1)) (ov_tr O98.out ovA)⟩
                  case measure => (simp [intOf]; try omega)
                · have e7 : ((EP : Int) != 7) = true := by rw [bne_iff_ne]; omega
                  have e7n : (EP != 7) = true := by rw [bne_iff_ne]; exact h7
                  have hb := hbad h7
                  simp only [Prod.mk.injEq] at hb
                  obtain ⟨⟨hrf, rfl, rfl⟩, rfl⟩ := hb
                  have hrf0 : rf.length = 0 := by rw [hrf]; rfl
                  have hd9 : decide ((0 : Int) < (rf.length : Int)) = false := decide_eq_false (by omega)
                  have hd9n : decide (0 < rf.length) = false := decide_eq_false (by omega)
                  clear hrf hrf0
                  obtain ⟨n0, h0⟩ : ∃ x, c0 = x := ⟨_, rfl⟩
                  obtain ⟨n1, h1⟩ : ∃ x, c1 = x := ⟨_, rfl⟩
                  obtain ⟨n2, h2⟩ : ∃ x, c2 = x := ⟨_, rfl⟩
                  obtain ⟨wy2, h3⟩ : ∃ x, wy = x := ⟨_, rfl⟩
                  have HCN : Hid (rst.come id = ⟨n0, n1, n2⟩) := hid (by rw [← h0, ← h1, ← h2]; exact hcw)
                  have HWY2 : Hid (sumN rst.ws = wy2) := hid (by rw [← h3]; exact hwy)
                  have HTk := hid htk
                  have HE8 : Hid (rst.e = 7) := hid HE.out
                  have HBf1 : Hid (∀ W, Calls Tryz.prog 27 #[.agg #[.int .u32 (n0 : Nat), .int .u32 (n1 : Nat), .int .u32 (n2 : Nat)], .agg #[.int .u32 (c0 : Nat), .int .u32 (c1 : Nat), .int .u32 (c2 : Nat)]] W (Ret W (.bool false))) := hid (by rw [← h0, ← h1, ← h2, ← bef_irr (⟨c0, c1, c2⟩ : Pl).w]; exact fun W => rbefore_any (⟨c0, c1, c2⟩ : Pl).w (⟨c0, c1, c2⟩ : Pl).w W)
                  have HBf2 : Hid (∀ W, Calls Tryz.prog 27 #[.agg #[.int .u32 (c0 : Nat), .int .u32 (c1 : Nat), .int .u32 (c2 : Nat)], .agg #[.int .u32 (n0 : Nat), .int .u32 (n1 : Nat), .int .u32 (n2 : Nat)]] W (Ret W (.bool false))) := hid (by rw [← h0, ← h1, ← h2, ← bef_irr (⟨c0, c1, c2⟩ : Pl).w]; exact fun W => rbefore_any (⟨c0, c1, c2⟩ : Pl).w (⟨c0, c1, c2⟩ : Pl).w W)
                  have hpq : plB n0 n1 n2 c0 c1 c2 = true := by rw [← h0, ← h1, ← h2]; exact plB_refl c0 c1 c2
                  have hww : (wy2 != wy) = false := by rw [← h3, bne_eq_false_iff_eq]
                  clear hr hke hbad htk hrr hcw hwy h7 h0 h1 h2 h3
                  have HCm1 : Hid (∀ W, (∃ e, W = over W6 e) → Calls Tryz.prog 20 #[.pointer (some ⟨p, 0, none⟩), .int .u32 (id : Nat)] W (Ret W (.agg #[.int .u32 (c0 : Nat), .int .u32 (c1 : Nat), .int .u32 (c2 : Nat)]))) := hid (fun W hW => by
                    have k := sCome_any (HDx.out.ov hW).sd id
                    rw [HCW.out] at k
                    exact k)
                  have HWy1 : Hid (∀ W, (∃ e, W = over W6 e) → Calls Tryz.prog 24 #[.pointer (some ⟨p, 0, none⟩)] W (Ret W (.int .i64 wy))) := hid (fun W hW => by
                    have k := sWayN_any (HDx.out.ov hW).sd
                    rw [HWY.out] at k
                    exact k)
                  have s0 := HB6.out.cell 0 rfl
                  have s1 := HB6.out.cell 1 rfl
                  have s2 := HB6.out.cell 2 rfl
                  have s3 := HB6.out.cell 3 rfl
                  have s4 := HB6.out.cell 4 rfl
                  have s5 := HB6.out.cell 5 rfl
                  have s6 := HB6.out.cell 6 rfl
                  have s7 := HB6.out.cell 7 rfl
                  have s8 := HB6.out.cell 8 rfl
                  have s9 := HB6.out.cell 9 rfl
                  have s10 := HB6.out.cell 10 rfl
                  have sl := HB6.out.lt
                  go_upto_region 28 with (first | (go_at_call 20; (with_reducible refine (HCm1.out _ ovA).mono ?_); rintro _ _ ⟨⟨e6, rfl⟩, rfl⟩) | (go_at_call 24; (with_reducible refine (HWy1.out _ ovA).mono ?_); rintro _ _ ⟨⟨e7, rfl⟩, rfl⟩))
                  refine gen_w ?_
                  intro W7 hW7
                  obtain ⟨q19, hq19⟩ : ∃ q, q = (over W6 e6).heap.size := ⟨_, rfl⟩
                  have B19 : Hid (Blk W7 q19 [.int .u32 (c0 : Nat), .int .u32 (c1 : Nat), .int .u32 (c2 : Nat)] 42) := hid (by rw [hW7, hq19]; exact (by exact blA))
                  have O76 : Hid (∃ e, W7 = over W6 e) := hid (by rw [hW7]; exact ovA)
                  have B13 := hid (Blk.chg HB6.out (Chg.of_ov O76.out []) (by simp))
                  have hq19w : W6.heap.size ≤ q19 := by rw [hq19]; simp
                  have HQ19 := hid hq19w
                  have hqe : W6.heap.size + e6.heap.size = q19 := by rw [hq19]; simp
                  rw [hqe]
                  clear hW7 hq19 hq19w hqe s0 s1 s2 s3 s4 s5 s6 s7 s8 s9 s10 sl HB6 HCm1 HWy1
                  have s0 := B13.out.cell 0 rfl
                  have s1 := B13.out.cell 1 rfl
                  have s2 := B13.out.cell 2 rfl
                  have s3 := B13.out.cell 3 rfl
                  have s4 := B13.out.cell 4 rfl
                  have s5 := B13.out.cell 5 rfl
                  have s6 := B13.out.cell 6 rfl
                  have s7 := B13.out.cell 7 rfl
                  have s8 := B13.out.cell 8 rfl
                  have s9 := B13.out.cell 9 rfl
                  have s10 := B13.out.cell 10 rfl
                  have sl := B13.out.lt
                  go_upto_region 30 with (first
                    | (go_at_call 19
                       (with_reducible refine (HTk.out _ (ov_tr O76.out ovA)).mono ?_)
                       rintro _ W8 ⟨v8, l8, F8, rfl, hm8, hg8, hd8, hc8, hs8, hn8⟩
                       have hc78 : Chg (sndF p pw pt mt mc ms F) W7 W8 := Chg.trans (by exact chA) hc8
                       have hqF : ∀ q, wo.heap.size ≤ q → q ∉ sndF p pw pt mt mc ms F := fun q hq hm => by have := (HD.out.sd.lt q hm).2; omega
                       have B138 := hid (B13.out.chg hc78 (hqF q13 HQ13.out))
                       have B198 := hid (B19.out.chg hc78 (hqF q19 (by have := HQ19.out; have := sz_over O6.out; omega)))
                       have C8 : Hid (Chg (sndF p pw pt mt mc ms F) wo W8) := hid (Chg.trans (Chg.of_ov (ov_tr O6.out O76.out) _) hc78)
                       have HN8 : Hid (∀ k ∈ F8, k ∈ F3 ∨ W3.heap.size ≤ k) := hid (fun k hk => by
                         rcases hn8 k hk with h1 | h1
                         · exact HN.out k h1
                         · right
                           have h2 := HC.out.size
                           have h3 := sz_over (ov_tr O6.out O76.out)
                           (try simp at h1)
                           omega)
                       have HD8 := hid hd8
                       have h8l : l8.length = rf.length := by have := congrArg List.length hm8; simpa using this
                       obtain ⟨a8, c8, rfl, _⟩ := Own.slice (Gx.cs_len _) hg8.row
                       rw [h8l]
                       have HCm2 : Hid (∀ W, (∃ e, W = over W8 e) → Calls Tryz.prog 20 #[.pointer (some ⟨p, 0, none⟩), .int .u32 (id : Nat)] W (Ret W (.agg #[.int .u32 (n0 : Nat), .int .u32 (n1 : Nat), .int .u32 (n2 : Nat)]))) := hid (fun W hW => by
                         have k := sCome_any (hd8.ov hW).sd id
                         rw [HCN.out] at k
                         exact k)
                       have HWy2 : Hid (∀ W, (∃ e, W = over W8 e) → Calls Tryz.prog 24 #[.pointer (some ⟨p, 0, none⟩)] W (Ret W (.int .i64 wy2))) := hid (fun W hW => by
                         have k := sWayN_any (hd8.ov hW).sd
                         rw [HWY2.out] at k
                         exact k)
                       clear hm8 hg8 hd8 hc8 hs8 hn8 hc78 hqF h8l s0 s1 s2 s3 s4 s5 s6 s7 s8 s9 s10 sl HTk)
                    | (go_at_call 20; (with_reducible refine (HCm2.out _ ovA).mono ?_); rintro _ _ ⟨⟨e8, rfl⟩, rfl⟩))
                  refine gen_w ?_
                  intro W9 hW9
                  obtain ⟨q24, hq24⟩ : ∃ q, q = (over W8 e8).heap.size := ⟨_, rfl⟩
                  have B24 : Hid (Blk W9 q24 [.int .u32 (n0 : Nat), .int .u32 (n1 : Nat), .int .u32 (n2 : Nat)] 42) := hid (by rw [hW9, hq24]; exact (by exact blA))
                  have O98 : Hid (∃ e, W9 = over W8 e) := hid (by rw [hW9]; exact ovA)
                  have B139 := hid (Blk.chg B138.out (Chg.of_ov O98.out []) (by simp))
                  have B199 := hid (Blk.chg B198.out (Chg.of_ov O98.out []) (by simp))
                  have hqe : W8.heap.size + e8.heap.size = q24 := by rw [hq24]; simp
                  rw [hqe]
                  clear hW9 hq24 hqe
                  have s1 := B139.out.cell 1 rfl
                  have sl := B139.out.lt
                  have t0 := B199.out.cell 0 rfl
                  have t1 := B199.out.cell 1 rfl
                  have t2 := B199.out.cell 2 rfl
                  have tl := B199.out.lt
                  have u0 := B24.out.cell 0 rfl
                  have u1 := B24.out.cell 1 rfl
                  have u2 := B24.out.cell 2 rfl
                  have ul := B24.out.lt
                  have HWy3 := hid (fun (W : World) (hW : ∃ e, W = over W9 e) => HWy2.out W (ov_tr O98.out hW))
                  go_wp2_with (first | (go_at_call 27; (with_reducible refine (HBf1.out _).mono ?_); rintro _ _ ⟨⟨e9, rfl⟩, rfl⟩) | (go_at_call 27; (with_reducible refine (HBf2.out _).mono ?_); rintro _ _ ⟨⟨e10, rfl⟩, rfl⟩) | (go_at_call 24; (with_reducible refine (HWy3.out _ ovA).mono ?_); rintro _ _ ⟨⟨e11, rfl⟩, rfl⟩))
                  go_roundw
                  case rel => exact ⟨k + 1, rst, F8, by omega, by go_num, HD8.out.ov (ov_tr O98.out ovA), HE8.out, (chg_F HC.out HN.out C8.out).trans (Chg.of_ov (ov_tr O98.out ovA) _), HN8.out, ov_tr (Chg.ov HO.out C8.out (fun i hi => (HD.out.sd.lt i hi).1)) (ov_tr O98.out ovA)⟩
                  case measure => (simp [intOf]; try omega)
            · have hda : decide (0 < an) = true := decide_eq_true (by omega)
              obtain ⟨m30, hm30⟩ : ∃ m, an % 30 = m := ⟨_, rfl⟩
              have em3 : Int.tmod (an : Int) 30 = ((m30 : Nat) : Int) := by rw [← hm30]; rfl
              have hm3 : m30 < 30 := by omega
              have hokS := HD.out.ok id
              have hclS := HD.out.cl id
              obtain ⟨s, hs⟩ : ∃ s, getS S id = s := ⟨_, rfl⟩
              rw [hs] at hokS hclS
              have HSE := hid hs
              have HOK := hid hokS
              have HCL := hid hclS
              clear hm30 hat hs hokS hclS
              go_upto_region 17 with (fail)
              refine gen_w ?_
              intro W51 hW51
              obtain ⟨q14, hq14⟩ : ∃ q, q = W5.heap.size := ⟨_, rfl⟩
              have O51 : Hid (∃ e, W51 = over W5 e) := hid (by rw [hW51]; exact ovA)
              have B14 : Hid (Blk W51 q14 [.int .u32 0, .int .u32 0, .int .u32 0] 42) := hid (by rw [hW51, hq14]; exact (by exact blA))
              have hq14w : W5.heap.size ≤ q14 := by rw [hq14]; exact Nat.le_refl _
              have HQ14 := hid hq14w
              rw [← hq14]
              clear hW51 hq14 hq14w
              go_wp2_with fail
              go_loopw [15, 16, 17, 18] (fun i _ _ _ wx => ∃ (k' p0 p1 p2 : Nat), k' ≤ 31 ∧ (1 ≤ k' ∧ (k' ≤ m30 ∨ k' = 1)) ∧ i = .int .u8 (k' : Nat) ∧ IsPl s ⟨p0, p1, p2⟩ ∧ Blk wx q14 [.int .u32 (p0 : Nat), .int .u32 (p1 : Nat), .int .u32 (p2 : Nat)] 42 ∧ Ov W5 wx) (fun i _ _ _ _ => 40 - (intOf i).toNat)
              case atStart => exact ⟨1, 0, 0, 0, by omega, by omega, rfl, isPl_zero HOK.out 0 (Nat.zero_le _), B14.out, O51.out⟩
              case round =>
                obtain ⟨k', p0, p1, p2, hk31, hk1, rfl, hpl, hbk, hov⟩ := hrel
                have HPL := hid hpl
                have HBk := hid hbk
                have HOx := hid hov
                have b0 := hbk.cell 0 rfl
                have b1 := hbk.cell 1 rfl
                have b2 := hbk.cell 2 rfl
                have bl := hbk.lt
                have bf : ∀ j, wr.frozen? ⟨q14, j, none⟩ = false := fun j => hbk.free j
                have z16x : wr.cell? ⟨bo, oo + k * 18 + 16, none⟩ = some (.int .u8 (an : Nat)) := by obtain ⟨e9, h9⟩ := hov; rw [h9, cell_over _ _ _ _ zbo]; exact z16
                have zbx : bo < wr.heap.size := Nat.lt_of_lt_of_le zbo (sz_over hov)
                clear hpl hbk hov
                by_cases hl3 : k' < m30
                · have hd3 : decide (k' < m30) = true := decide_eq_true hl3
                  obtain ⟨⟨tc, tb, tn⟩, ht⟩ : ∃ x, cutP s ⟨p0, p1, p2⟩ = x := ⟨_, rfl⟩
                  have hpl2 := cutP_pl HOK.out HPL.out
                  rw [ht] at hpl2
                  have HPL2 := hid hpl2
                  have HCut := hid (cut_t (bk_ov (bk_ov HD.out.bk O5.out) HOx.out) (by rw [HD.out.eq]; exact HSE.out) HPL.out HCL.out ht)
                  have hq5 := HQ14.out
                  clear ht hpl2
                  go_wp2_with (go_at_call 17; (with_reducible refine (HCut.out _ ovA).mono ?_); rintro _ _ ⟨k0, k1, k2, k3, k4, k5, k6, k7, k8, kn, kc, k9, ka, rfl, ⟨e5, rfl⟩⟩)
                  go_roundw
                  case rel => exact ⟨k' + 1, tc, tb, tn, by omega, by omega, by go_num, HPL2.out, Blk.alloc (Blk.alloc (Blk.on (((HBk.out.set 0 _).set 1 _).set 2 _) _) _) _, (ovB HOx.out)⟩
                  case measure => (simp [intOf]; try omega)
                · have hd3 : decide (k' < m30) = false := decide_eq_false hl3
                  have hple := isPl_le HOK.out HPL.out
                  simp only at hple
                  have hcl9 := HCL.out
                  have B5x := hid (Blk.chg B5.out (Chg.of_ov HOx.out []) (by simp))
                  have f0 := B5x.out.cell 3 rfl
                  have f1 := B5x.out.cell 4 rfl
                  have f2 := B5x.out.cell 5 rfl
                  have fl0 := B5x.out.lt
                  have ff : ∀ j, wr.frozen? ⟨q13, j, none⟩ = false := fun j => B5x.out.free j
                  have hq13b := HQ13.out
                  go_upto_region 23 with (fail)
                  refine gen_w ?_
                  intro WA hWA
                  obtain ⟨PC, hPC⟩ : ∃ x, p0 = x := ⟨_, rfl⟩
                  obtain ⟨PB, hPB⟩ : ∃ x, p1 = x := ⟨_, rfl⟩
                  obtain ⟨PN, hPN⟩ : ∃ x, p2 = x := ⟨_, rfl⟩
                  have hP1 : PC < 4294967296 := by omega
                  have hP2 : PB < 4294967296 := by omega
                  have hP3 : PN < 4294967296 := by omega
                  have OX := hid (ov_tr O5.out HOx.out)
                  have HBA : Hid (Blk WA q13 [.int .u8 (kd : Nat), .int .u32 (ep : Nat), .int .u32 (id : Nat), .int .u32 (PC : Nat), .int .u32 (PB : Nat), .int .u32 (PN : Nat), .int .u32 ct, .bool cl, .int .u64 (sm : Nat), .slice fa fl fc, .int .i64 fN] 48) := hid (by rw [hWA, ← hPC, ← hPB, ← hPN]; exact ((B5x.out.set 3 _).set 4 _).set 5 _)
                  have OA : Hid (∃ e, WA = over wo e) := hid (by rw [hWA]; exact (ovB OX.out))
                  clear z15 z16 zbo z16x zbx
                  have z15 : WA.cell? ⟨bo, oo + k * 18 + 15, none⟩ = some (.bool own) := by obtain ⟨e9, h9⟩ := OA.out; rw [h9, cell_over _ _ _ _ HBO.out]; exact Y15.out
                  have z16 : True := trivial
                  have zbo : bo < WA.heap.size := Nat.lt_of_lt_of_le HBO.out (sz_over OA.out)
                  clear hWA hPC hPB hPN hple hcl9 f0 f1 f2 fl0 ff hq13b B5 O5 B5x HBk b0 b1 b2 bl bf HPL hl3 hk1 hk31 hd3 OX HOx O51 B14 HQ14
                  cases own with
                  | false =>
                    go_upto_region 26 with (fail)
                    refine gen_w ?_
                    intro W6 hW6
                    have O6A : ∃ e, W6 = over WA e := by rw [hW6]; exact ovA
                    have HB6 := hid (Blk.chg HBA.out (Chg.of_ov O6A []) (by simp))
                    clear O6A
                    have O6 : Hid (∃ e, W6 = over wo e) := hid (by rw [hW6]; exact (ovB OA.out))
                    obtain ⟨EP, hEP⟩ : ∃ x, ep = x := ⟨_, rfl⟩
                    obtain ⟨SM, hSM⟩ : ∃ x, sm = x := ⟨_, rfl⟩
                    rw [hEP, hSM] at HB6
                    clear hW6 hEP hSM HBA OA z15 z16 zbo
                    have HDx := hid (HD.out.ov O6.out)
                    have hr := take_order HD.out.ok HD.out.nd HD.out.inv kd EP id SM ⟨PC, PB, PN⟩
                    have hke := (take_kept HD.out.ok HD.out.nd HD.out.inv kd EP id SM ⟨PC, PB, PN⟩).2.2.1
                    have hbad : EP ≠ 7 → takeS S (ksS S) st kd EP id ⟨PC, PB, PN⟩ SM = (([], false, 1), st) := fun h => takeS_bad (.inr (by rw [HE.out]; exact h))
                    have htk := fun (W : World) (hW : ∃ e, W = over W6 e) => (HDx.out.ov hW).take kd EP id SM PC PB PN hi32 hP1 hP2 hP3 ct fN cl fa fl fc
                    obtain ⟨r, hrr⟩ : ∃ r, takeS S (ksS S) st kd EP id ⟨PC, PB, PN⟩ SM = r := ⟨_, rfl⟩
                    rw [hrr] at hr hke hbad htk
                    obtain ⟨⟨rf, rm, rer⟩, rst⟩ := r
                    simp only at hr hke hbad htk
                    obtain ⟨⟨c0, c1, c2⟩, hcw⟩ : ∃ x, st.come id = x := ⟨_, rfl⟩
                    obtain ⟨wy, hwy⟩ : ∃ x, sumN st.ws = x := ⟨_, rfl⟩
                    have HCW := hid hcw
                    have HWY := hid hwy
                    by_cases h7 : EP = 7
                    · have e7 : ((EP : Int) != 7) = false := by rw [bne_eq_false_iff_eq]; omega
                      have e7n : (EP != 7) = false := by rw [bne_eq_false_iff_eq]; exact h7
                      obtain ⟨⟨n0, n1, n2⟩, hcn⟩ : ∃ x, rst.come id = x := ⟨_, rfl⟩
                      obtain ⟨wy2, hwy2⟩ : ∃ x, sumN rst.ws = x := ⟨_, rfl⟩
                      have HCN := hid hcn
                      have HWY2 := hid hwy2
                      have HTk := hid htk
                      have HE8 : Hid (rst.e = 7) := hid (by rw [hke]; exact HE.out)
                      rw [hcw, hcn] at hr
                      have HBf1 : Hid (∀ W, Calls Tryz.prog 27 #[.agg #[.int .u32 (n0 : Nat), .int .u32 (n1 : Nat), .int .u32 (n2 : Nat)], .agg #[.int .u32 (c0 : Nat), .int .u32 (c1 : Nat), .int .u32 (c2 : Nat)]] W (Ret W (.bool false))) := hid (by rw [← hr.1]; exact fun W => rbefore_any (⟨n0, n1, n2⟩ : Pl).w (⟨c0, c1, c2⟩ : Pl).w W)
                      have HBf2 : Hid (∀ W, Calls Tryz.prog 27 #[.agg #[.int .u32 (c0 : Nat), .int .u32 (c1 : Nat), .int .u32 (c2 : Nat)], .agg #[.int .u32 (n0 : Nat), .int .u32 (n1 : Nat), .int .u32 (n2 : Nat)]] W (Ret W (.bool rm))) := hid (by rw [hr.2]; exact fun W => rbefore_any (⟨c0, c1, c2⟩ : Pl).w (⟨n0, n1, n2⟩ : Pl).w W)
                      clear hr hke hbad htk hrr hcw hwy hcn hwy2 h7
                      have HCm1 : Hid (∀ W, (∃ e, W = over W6 e) → Calls Tryz.prog 20 #[.pointer (some ⟨p, 0, none⟩), .int .u32 (id : Nat)] W (Ret W (.agg #[.int .u32 (c0 : Nat), .int .u32 (c1 : Nat), .int .u32 (c2 : Nat)]))) := hid (fun W hW => by
                        have k := sCome_any (HDx.out.ov hW).sd id
                        rw [HCW.out] at k
                        exact k)
                      have HWy1 : Hid (∀ W, (∃ e, W = over W6 e) → Calls Tryz.prog 24 #[.pointer (some ⟨p, 0, none⟩)] W (Ret W (.int .i64 wy))) := hid (fun W hW => by
                        have k := sWayN_any (HDx.out.ov hW).sd
                        rw [HWY.out] at k
                        exact k)
                      have s0 := HB6.out.cell 0 rfl
                      have s1 := HB6.out.cell 1 rfl
                      have s2 := HB6.out.cell 2 rfl
                      have s3 := HB6.out.cell 3 rfl
                      have s4 := HB6.out.cell 4 rfl
                      have s5 := HB6.out.cell 5 rfl
                      have s6 := HB6.out.cell 6 rfl
                      have s7 := HB6.out.cell 7 rfl
                      have s8 := HB6.out.cell 8 rfl
                      have s9 := HB6.out.cell 9 rfl
                      have s10 := HB6.out.cell 10 rfl
                      have sl := HB6.out.lt
                      go_upto_region 28 with (first | (go_at_call 20; (with_reducible refine (HCm1.out _ ovA).mono ?_); rintro _ _ ⟨⟨e6, rfl⟩, rfl⟩) | (go_at_call 24; (with_reducible refine (HWy1.out _ ovA).mono ?_); rintro _ _ ⟨⟨e7, rfl⟩, rfl⟩))
                      refine gen_w ?_
                      intro W7 hW7
                      obtain ⟨q19, hq19⟩ : ∃ q, q = (over W6 e6).heap.size := ⟨_, rfl⟩
                      have B19 : Hid (Blk W7 q19 [.int .u32 (c0 : Nat), .int .u32 (c1 : Nat), .int .u32 (c2 : Nat)] 42) := hid (by rw [hW7, hq19]; exact (by exact blA))
                      have O76 : Hid (∃ e, W7 = over W6 e) := hid (by rw [hW7]; exact ovA)
                      have B13 := hid (Blk.chg HB6.out (Chg.of_ov O76.out []) (by simp))
                      have hq19w : W6.heap.size ≤ q19 := by rw [hq19]; simp
                      have HQ19 := hid hq19w
                      have hqe : W6.heap.size + e6.heap.size = q19 := by rw [hq19]; simp
                      rw [hqe]
                      clear hW7 hq19 hq19w hqe s0 s1 s2 s3 s4 s5 s6 s7 s8 s9 s10 sl HB6 HCm1 HWy1
                      have s0 := B13.out.cell 0 rfl
                      have s1 := B13.out.cell 1 rfl
                      have s2 := B13.out.cell 2 rfl
                      have s3 := B13.out.cell 3 rfl
                      have s4 := B13.out.cell 4 rfl
                      have s5 := B13.out.cell 5 rfl
                      have s6 := B13.out.cell 6 rfl
                      have s7 := B13.out.cell 7 rfl
                      have s8 := B13.out.cell 8 rfl
                      have s9 := B13.out.cell 9 rfl
                      have s10 := B13.out.cell 10 rfl
                      have sl := B13.out.lt
                      go_upto_region 30 with (first
                        | (go_at_call 19
                           (with_reducible refine (HTk.out _ (ov_tr O76.out ovA)).mono ?_)
                           rintro _ W8 ⟨v8, l8, F8, rfl, hm8, hg8, hd8, hc8, hs8, hn8⟩
                           have hc78 : Chg (sndF p pw pt mt mc ms F) W7 W8 := Chg.trans (by exact chA) hc8
                           have hqF : ∀ q, wo.heap.size ≤ q → q ∉ sndF p pw pt mt mc ms F := fun q hq hm => by have := (HD.out.sd.lt q hm).2; omega
                           have B138 := hid (B13.out.chg hc78 (hqF q13 HQ13.out))
                           have B198 := hid (B19.out.chg hc78 (hqF q19 (by have := HQ19.out; have := sz_over O6.out; omega)))
                           have C8 : Hid (Chg (sndF p pw pt mt mc ms F) wo W8) := hid (Chg.trans (Chg.of_ov (ov_tr O6.out O76.out) _) hc78)
                           have HN8 : Hid (∀ k ∈ F8, k ∈ F3 ∨ W3.heap.size ≤ k) := hid (fun k hk => by
                             rcases hn8 k hk with h1 | h1
                             · exact HN.out k h1
                             · right
                               have h2 := HC.out.size
                               have h3 := sz_over (ov_tr O6.out O76.out)
                               (try simp at h1)
                               omega)
                           have HD8 := hid hd8
                           have h8l : l8.length = rf.length := by have := congrArg List.length hm8; simpa using this
                           obtain ⟨a8, c8, rfl, _⟩ := Own.slice (Gx.cs_len _) hg8.row
                           rw [h8l]
                           have HCm2 : Hid (∀ W, (∃ e, W = over W8 e) → Calls Tryz.prog 20 #[.pointer (some ⟨p, 0, none⟩), .int .u32 (id : Nat)] W (Ret W (.agg #[.int .u32 (n0 : Nat), .int .u32 (n1 : Nat), .int .u32 (n2 : Nat)]))) := hid (fun W hW => by
                             have k := sCome_any (hd8.ov hW).sd id
                             rw [HCN.out] at k
                             exact k)
                           have HWy2 : Hid (∀ W, (∃ e, W = over W8 e) → Calls Tryz.prog 24 #[.pointer (some ⟨p, 0, none⟩)] W (Ret W (.int .i64 wy2))) := hid (fun W hW => by
                             have k := sWayN_any (hd8.ov hW).sd
                             rw [HWY2.out] at k
                             exact k)
                           clear hm8 hg8 hd8 hc8 hs8 hn8 hc78 hqF h8l s0 s1 s2 s3 s4 s5 s6 s7 s8 s9 s10 sl HTk)
                        | (go_at_call 20; (with_reducible refine (HCm2.out _ ovA).mono ?_); rintro _ _ ⟨⟨e8, rfl⟩, rfl⟩))
                      refine gen_w ?_
                      intro W9 hW9
                      obtain ⟨q24, hq24⟩ : ∃ q, q = (over W8 e8).heap.size := ⟨_, rfl⟩
                      have B24 : Hid (Blk W9 q24 [.int .u32 (n0 : Nat), .int .u32 (n1 : Nat), .int .u32 (n2 : Nat)] 42) := hid (by rw [hW9, hq24]; exact (by exact blA))
                      have O98 : Hid (∃ e, W9 = over W8 e) := hid (by rw [hW9]; exact ovA)
                      have B139 := hid (Blk.chg B138.out (Chg.of_ov O98.out []) (by simp))
                      have B199 := hid (Blk.chg B198.out (Chg.of_ov O98.out []) (by simp))
                      have hqe : W8.heap.size + e8.heap.size = q24 := by rw [hq24]; simp
                      rw [hqe]
                      clear hW9 hq24 hqe
                      have s1 := B139.out.cell 1 rfl
                      have sl := B139.out.lt
                      have t0 := B199.out.cell 0 rfl
                      have t1 := B199.out.cell 1 rfl
                      have t2 := B199.out.cell 2 rfl
                      have tl := B199.out.lt
                      have u0 := B24.out.cell 0 rfl
                      have u1 := B24.out.cell 1 rfl
                      have u2 := B24.out.cell 2 rfl
                      have ul := B24.out.lt
                      have HWy3 := hid (fun (W : World) (hW : ∃ e, W = over W9 e) => HWy2.out W (ov_tr O98.out hW))
                      go_wp2_with (first | (go_at_call 27; (with_reducible refine (HBf1.out _).mono ?_); rintro _ _ ⟨⟨e9, rfl⟩, rfl⟩) | (go_at_call 27; (with_reducible refine (HBf2.out _).mono ?_); rintro _ _ ⟨⟨e10, rfl⟩, rfl⟩) | (go_at_call 24; (with_reducible refine (HWy3.out _ ovA).mono ?_); rintro _ _ ⟨⟨e11, rfl⟩, rfl⟩))
                      go_roundw
                      case rel => exact ⟨k + 1, rst, F8, by omega, by go_num, HD8.out.ov (ov_tr O98.out ovA), HE8.out, (chg_F HC.out HN.out C8.out).trans (Chg.of_ov (ov_tr O98.out ovA) _), HN8.out, ov_tr (Chg.ov HO.out C8.out (fun i hi => (HD.out.sd.lt i hi).1)) (ov_tr O98.out ovA)⟩
                      case measure => (simp [intOf]; try omega)
                    · have e7 : ((EP : Int) != 7) = true := by rw [bne_iff_ne]; omega
                      have e7n : (EP != 7) = true := by rw [bne_iff_ne]; exact h7
                      have hb := hbad h7
                      simp only [Prod.mk.injEq] at hb
                      obtain ⟨⟨hrf, rfl, rfl⟩, rfl⟩ := hb
                      have hrf0 : rf.length = 0 := by rw [hrf]; rfl
                      have hd9 : decide ((0 : Int) < (rf.length : Int)) = false := decide_eq_false (by omega)
                      have hd9n : decide (0 < rf.length) = false := decide_eq_false (by omega)
                      clear hrf hrf0
                      obtain ⟨n0, h0⟩ : ∃ x, c0 = x := ⟨_, rfl⟩
                      obtain ⟨n1, h1⟩ : ∃ x, c1 = x := ⟨_, rfl⟩
                      obtain ⟨n2, h2⟩ : ∃ x, c2 = x := ⟨_, rfl⟩
                      obtain ⟨wy2, h3⟩ : ∃ x, wy = x := ⟨_, rfl⟩
                      have HCN : Hid (rst.come id = ⟨n0, n1, n2⟩) := hid (by rw [← h0, ← h1, ← h2]; exact hcw)
                      have HWY2 : Hid (sumN rst.ws = wy2) := hid (by rw [← h3]; exact hwy)
                      have HTk := hid htk
                      have HE8 : Hid (rst.e = 7) := hid HE.out
                      have HBf1 : Hid (∀ W, Calls Tryz.prog 27 #[.agg #[.int .u32 (n0 : Nat), .int .u32 (n1 : Nat), .int .u32 (n2 : Nat)], .agg #[.int .u32 (c0 : Nat), .int .u32 (c1 : Nat), .int .u32 (c2 : Nat)]] W (Ret W (.bool false))) := hid (by rw [← h0, ← h1, ← h2, ← bef_irr (⟨c0, c1, c2⟩ : Pl).w]; exact fun W => rbefore_any (⟨c0, c1, c2⟩ : Pl).w (⟨c0, c1, c2⟩ : Pl).w W)
                      have HBf2 : Hid (∀ W, Calls Tryz.prog 27 #[.agg #[.int .u32 (c0 : Nat), .int .u32 (c1 : Nat), .int .u32 (c2 : Nat)], .agg #[.int .u32 (n0 : Nat), .int .u32 (n1 : Nat), .int .u32 (n2 : Nat)]] W (Ret W (.bool false))) := hid (by rw [← h0, ← h1, ← h2, ← bef_irr (⟨c0, c1, c2⟩ : Pl).w]; exact fun W => rbefore_any (⟨c0, c1, c2⟩ : Pl).w (⟨c0, c1, c2⟩ : Pl).w W)
                      have hpq : plB n0 n1 n2 c0 c1 c2 = true := by rw [← h0, ← h1, ← h2]; exact plB_refl c0 c1 c2
                      have hww : (wy2 != wy) = false := by rw [← h3, bne_eq_false_iff_eq]
                      clear hr hke hbad htk hrr hcw hwy h7 h0 h1 h2 h3
                      have HCm1 : Hid (∀ W, (∃ e, W = over W6 e) → Calls Tryz.prog 20 #[.pointer (some ⟨p, 0, none⟩), .int .u32 (id : Nat)] W (Ret W (.agg #[.int .u32 (c0 : Nat), .int .u32 (c1 : Nat), .int .u32 (c2 : Nat)]))) := hid (fun W hW => by
                        have k := sCome_any (HDx.out.ov hW).sd id
                        rw [HCW.out] at k
                        exact k)
                      have HWy1 : Hid (∀ W, (∃ e, W = over W6 e) → Calls Tryz.prog 24 #[.pointer (some ⟨p, 0, none⟩)] W (Ret W (.int .i64 wy))) := hid (fun W hW => by
                        have k := sWayN_any (HDx.out.ov hW).sd
                        rw [HWY.out] at k
                        exact k)
                      have s0 := HB6.out.cell 0 rfl
                      have s1 := HB6.out.cell 1 rfl
                      have s2 := HB6.out.cell 2 rfl
                      have s3 := HB6.out.cell 3 rfl
                      have s4 := HB6.out.cell 4 rfl
                      have s5 := HB6.out.cell 5 rfl
                      have s6 := HB6.out.cell 6 rfl
                      have s7 := HB6.out.cell 7 rfl
                      have s8 := HB6.out.cell 8 rfl
                      have s9 := HB6.out.cell 9 rfl
                      have s10 := HB6.out.cell 10 rfl
                      have sl := HB6.out.lt
                      go_upto_region 28 with (first | (go_at_call 20; (with_reducible refine (HCm1.out _ ovA).mono ?_); rintro _ _ ⟨⟨e6, rfl⟩, rfl⟩) | (go_at_call 24; (with_reducible refine (HWy1.out _ ovA).mono ?_); rintro _ _ ⟨⟨e7, rfl⟩, rfl⟩))
                      refine gen_w ?_
                      intro W7 hW7
                      obtain ⟨q19, hq19⟩ : ∃ q, q = (over W6 e6).heap.size := ⟨_, rfl⟩
                      have B19 : Hid (Blk W7 q19 [.int .u32 (c0 : Nat), .int .u32 (c1 : Nat), .int .u32 (c2 : Nat)] 42) := hid (by rw [hW7, hq19]; exact (by exact blA))
                      have O76 : Hid (∃ e, W7 = over W6 e) := hid (by rw [hW7]; exact ovA)
                      have B13 := hid (Blk.chg HB6.out (Chg.of_ov O76.out []) (by simp))
                      have hq19w : W6.heap.size ≤ q19 := by rw [hq19]; simp
                      have HQ19 := hid hq19w
                      have hqe : W6.heap.size + e6.heap.size = q19 := by rw [hq19]; simp
                      rw [hqe]
                      clear hW7 hq19 hq19w hqe s0 s1 s2 s3 s4 s5 s6 s7 s8 s9 s10 sl HB6 HCm1 HWy1
                      have s0 := B13.out.cell 0 rfl
                      have s1 := B13.out.cell 1 rfl
                      have s2 := B13.out.cell 2 rfl
                      have s3 := B13.out.cell 3 rfl
                      have s4 := B13.out.cell 4 rfl
                      have s5 := B13.out.cell 5 rfl
                      have s6 := B13.out.cell 6 rfl
                      have s7 := B13.out.cell 7 rfl
                      have s8 := B13.out.cell 8 rfl
                      have s9 := B13.out.cell 9 rfl
                      have s10 := B13.out.cell 10 rfl
                      have sl := B13.out.lt
                      go_upto_region 30 with (first
                        | (go_at_call 19
                           (with_reducible refine (HTk.out _ (ov_tr O76.out ovA)).mono ?_)
                           rintro _ W8 ⟨v8, l8, F8, rfl, hm8, hg8, hd8, hc8, hs8, hn8⟩
                           have hc78 : Chg (sndF p pw pt mt mc ms F) W7 W8 := Chg.trans (by exact chA) hc8
                           have hqF : ∀ q, wo.heap.size ≤ q → q ∉ sndF p pw pt mt mc ms F := fun q hq hm => by have := (HD.out.sd.lt q hm).2; omega
                           have B138 := hid (B13.out.chg hc78 (hqF q13 HQ13.out))
                           have B198 := hid (B19.out.chg hc78 (hqF q19 (by have := HQ19.out; have := sz_over O6.out; omega)))
                           have C8 : Hid (Chg (sndF p pw pt mt mc ms F) wo W8) := hid (Chg.trans (Chg.of_ov (ov_tr O6.out O76.out) _) hc78)
                           have HN8 : Hid (∀ k ∈ F8, k ∈ F3 ∨ W3.heap.size ≤ k) := hid (fun k hk => by
                             rcases hn8 k hk with h1 | h1
                             · exact HN.out k h1
                             · right
                               have h2 := HC.out.size
                               have h3 := sz_over (ov_tr O6.out O76.out)
                               (try simp at h1)
                               omega)
                           have HD8 := hid hd8
                           have h8l : l8.length = rf.length := by have := congrArg List.length hm8; simpa using this
                           obtain ⟨a8, c8, rfl, _⟩ := Own.slice (Gx.cs_len _) hg8.row
                           rw [h8l]
                           have HCm2 : Hid (∀ W, (∃ e, W = over W8 e) → Calls Tryz.prog 20 #[.pointer (some ⟨p, 0, none⟩), .int .u32 (id : Nat)] W (Ret W (.agg #[.int .u32 (n0 : Nat), .int .u32 (n1 : Nat), .int .u32 (n2 : Nat)]))) := hid (fun W hW => by
                             have k := sCome_any (hd8.ov hW).sd id
                             rw [HCN.out] at k
                             exact k)
                           have HWy2 : Hid (∀ W, (∃ e, W = over W8 e) → Calls Tryz.prog 24 #[.pointer (some ⟨p, 0, none⟩)] W (Ret W (.int .i64 wy2))) := hid (fun W hW => by
                             have k := sWayN_any (hd8.ov hW).sd
                             rw [HWY2.out] at k
                             exact k)
                           clear hm8 hg8 hd8 hc8 hs8 hn8 hc78 hqF h8l s0 s1 s2 s3 s4 s5 s6 s7 s8 s9 s10 sl HTk)
                        | (go_at_call 20; (with_reducible refine (HCm2.out _ ovA).mono ?_); rintro _ _ ⟨⟨e8, rfl⟩, rfl⟩))
                      refine gen_w ?_
                      intro W9 hW9
                      obtain ⟨q24, hq24⟩ : ∃ q, q = (over W8 e8).heap.size := ⟨_, rfl⟩
                      have B24 : Hid (Blk W9 q24 [.int .u32 (n0 : Nat), .int .u32 (n1 : Nat), .int .u32 (n2 : Nat)] 42) := hid (by rw [hW9, hq24]; exact (by exact blA))
                      have O98 : Hid (∃ e, W9 = over W8 e) := hid (by rw [hW9]; exact ovA)
                      have B139 := hid (Blk.chg B138.out (Chg.of_ov O98.out []) (by simp))
                      have B199 := hid (Blk.chg B198.out (Chg.of_ov O98.out []) (by simp))
                      have hqe : W8.heap.size + e8.heap.size = q24 := by rw [hq24]; simp
                      rw [hqe]
                      clear hW9 hq24 hqe
                      have s1 := B139.out.cell 1 rfl
                      have sl := B139.out.lt
                      have t0 := B199.out.cell 0 rfl
                      have t1 := B199.out.cell 1 rfl
                      have t2 := B199.out.cell 2 rfl
                      have tl := B199.out.lt
                      have u0 := B24.out.cell 0 rfl
                      have u1 := B24.out.cell 1 rfl
                      have u2 := B24.out.cell 2 rfl
                      have ul := B24.out.lt
                      have HWy3 := hid (fun (W : World) (hW : ∃ e, W = over W9 e) => HWy2.out W (ov_tr O98.out hW))
                      go_wp2_with (first | (go_at_call 27; (with_reducible refine (HBf1.out _).mono ?_); rintro _ _ ⟨⟨e9, rfl⟩, rfl⟩) | (go_at_call 27; (with_reducible refine (HBf2.out _).mono ?_); rintro _ _ ⟨⟨e10, rfl⟩, rfl⟩) | (go_at_call 24; (with_reducible refine (HWy3.out _ ovA).mono ?_); rintro _ _ ⟨⟨e11, rfl⟩, rfl⟩))
                      go_roundw
                      case rel => exact ⟨k + 1, rst, F8, by omega, by go_num, HD8.out.ov (ov_tr O98.out ovA), HE8.out, (chg_F HC.out HN.out C8.out).trans (Chg.of_ov (ov_tr O98.out ovA) _), HN8.out, ov_tr (Chg.ov HO.out C8.out (fun i hi => (HD.out.sd.lt i hi).1)) (ov_tr O98.out ovA)⟩
                      case measure => (simp [intOf]; try omega)
                  | true =>
                    obtain ⟨sv, er, hsv⟩ : ∃ sv er : Nat, ∀ W, (∃ e, W = over wo e) → Calls Tryz.prog 18 #[.pointer (some ⟨b, 0, none⟩), .int .u32 (id : Nat), .agg #[.int .u32 (PC : Nat), .int .u32 (PB : Nat), .int .u32 (PN : Nat)]] W (Ret W (.tuple #[.int .u64 (sv : Nat), .int .u16 (er : Nat)])) := by
                      have hcl9 : (getS (bkOf L) id).cl.length ≤ 900 := by rw [HD.out.eq]; exact HD.out.cl id
                      cases hh : hasS (getS (bkOf L) id) ⟨PC, PB, PN⟩ with
                      | none => exact ⟨0, 122, fun W hW => bsum_no (bk_ov HD.out.bk hW) id hP1 hP2 hP3 hh hcl9⟩
                      | some y => exact ⟨sumP y.1 PN, 0, fun W hW => sum_any (bk_ov HD.out.bk hW) id (hasS_iff.1 hh) hcl9⟩
                    have HSum := hid hsv
                    have s0 := HBA.out.cell 0 rfl
                    have s1 := HBA.out.cell 1 rfl
                    have s3 := HBA.out.cell 3 rfl
                    have s4 := HBA.out.cell 4 rfl
                    have s5 := HBA.out.cell 5 rfl
                    have s8 := HBA.out.cell 8 rfl
                    have sl := HBA.out.lt
                    have sf : ∀ j, WA.frozen? ⟨q13, j, none⟩ = false := fun j => HBA.out.free j
                    have hq13b := HQ13.out
                    clear hsv
                    go_upto_region 26 with (go_at_call 18; (with_reducible refine (HSum.out _ (ovB OA.out)).mono ?_); rintro _ _ ⟨⟨e5, rfl⟩, rfl⟩)
                    refine gen_w ?_
                    intro W6 hW6
                    have HB6 : Hid (Blk W6 q13 [.int .u8 (kd : Nat), .int .u32 ((7 : Nat) : Int), .int .u32 (id : Nat), .int .u32 (PC : Nat), .int .u32 (PB : Nat), .int .u32 (PN : Nat), .int .u32 ct, .bool cl, .int .u64 (sv : Nat), .slice fa fl fc, .int .i64 fN] 48) := hid (by rw [hW6]; first | exact Blk.on ((HBA.out.set 1 _).set 8 _) _ | exact (Blk.on (HBA.out.set 1 _) _).set 8 _)
                    have O6 : Hid (∃ e, W6 = over wo e) := hid (by rw [hW6]; exact (ovB OA.out))
                    obtain ⟨EP, hEP⟩ : ∃ x, 7 = x := ⟨_, rfl⟩
                    obtain ⟨SM, hSM⟩ : ∃ x, sv = x := ⟨_, rfl⟩
                    rw [hEP, hSM] at HB6
                    clear hW6 hEP hSM HBA OA z15 z16 zbo HSum s0 s1 s3 s4 s5 s8 sl sf hq13b
                    have HDx := hid (HD.out.ov O6.out)
                    have hr := take_order HD.out.ok HD.out.nd HD.out.inv kd EP id SM ⟨PC, PB, PN⟩
                    have hke := (take_kept HD.out.ok HD.out.nd HD.out.inv kd EP id SM ⟨PC, PB, PN⟩).2.2.1
                    have hbad : EP ≠ 7 → takeS S (ksS S) st kd EP id ⟨PC, PB, PN⟩ SM = (([], false, 1), st) := fun h => takeS_bad (.inr (by rw [HE.out]; exact h))
                    have htk := fun (W : World) (hW : ∃ e, W = over W6 e) => (HDx.out.ov hW).take kd EP id SM PC PB PN hi32 hP1 hP2 hP3 ct fN cl fa fl fc
                    obtain ⟨r, hrr⟩ : ∃ r, takeS S (ksS S) st kd EP id ⟨PC, PB, PN⟩ SM = r := ⟨_, rfl⟩
                    rw [hrr] at hr hke hbad htk
                    obtain ⟨⟨rf, rm, rer⟩, rst⟩ := r
                    simp only at hr hke hbad htk
                    obtain ⟨⟨c0, c1, c2⟩, hcw⟩ : ∃ x, st.come id = x := ⟨_, rfl⟩
                    obtain ⟨wy, hwy⟩ : ∃ x, sumN st.ws = x := ⟨_, rfl⟩
                    have HCW := hid hcw
                    have HWY := hid hwy
                    by_cases h7 : EP = 7
                    · have e7 : ((EP : Int) != 7) = false := by rw [bne_eq_false_iff_eq]; omega
                      have e7n : (EP != 7) = false := by rw [bne_eq_false_iff_eq]; exact h7
                      obtain ⟨⟨n0, n1, n2⟩, hcn⟩ : ∃ x, rst.come id = x := ⟨_, rfl⟩
                      obtain ⟨wy2, hwy2⟩ : ∃ x, sumN rst.ws = x := ⟨_, rfl⟩
                      have HCN := hid hcn
                      have HWY2 := hid hwy2
                      have HTk := hid htk
                      have HE8 : Hid (rst.e = 7) := hid (by rw [hke]; exact HE.out)
                      rw [hcw, hcn] at hr
                      have HBf1 : Hid (∀ W, Calls Tryz.prog 27 #[.agg #[.int .u32 (n0 : Nat), .int .u32 (n1 : Nat), .int .u32 (n2 : Nat)], .agg #[.int .u32 (c0 : Nat), .int .u32 (c1 : Nat), .int .u32 (c2 : Nat)]] W (Ret W (.bool false))) := hid (by rw [← hr.1]; exact fun W => rbefore_any (⟨n0, n1, n2⟩ : Pl).w (⟨c0, c1, c2⟩ : Pl).w W)
                      have HBf2 : Hid (∀ W, Calls Tryz.prog 27 #[.agg #[.int .u32 (c0 : Nat), .int .u32 (c1 : Nat), .int .u32 (c2 : Nat)], .agg #[.int .u32 (n0 : Nat), .int .u32 (n1 : Nat), .int .u32 (n2 : Nat)]] W (Ret W (.bool rm))) := hid (by rw [hr.2]; exact fun W => rbefore_any (⟨c0, c1, c2⟩ : Pl).w (⟨n0, n1, n2⟩ : Pl).w W)
                      clear hr hke hbad htk hrr hcw hwy hcn hwy2 h7
                      have HCm1 : Hid (∀ W, (∃ e, W = over W6 e) → Calls Tryz.prog 20 #[.pointer (some ⟨p, 0, none⟩), .int .u32 (id : Nat)] W (Ret W (.agg #[.int .u32 (c0 : Nat), .int .u32 (c1 : Nat), .int .u32 (c2 : Nat)]))) := hid (fun W hW => by
                        have k := sCome_any (HDx.out.ov hW).sd id
                        rw [HCW.out] at k
                        exact k)
                      have HWy1 : Hid (∀ W, (∃ e, W = over W6 e) → Calls Tryz.prog 24 #[.pointer (some ⟨p, 0, none⟩)] W (Ret W (.int .i64 wy))) := hid (fun W hW => by
                        have k := sWayN_any (HDx.out.ov hW).sd
                        rw [HWY.out] at k
                        exact k)
                      have s0 := HB6.out.cell 0 rfl
                      have s1 := HB6.out.cell 1 rfl
                      have s2 := HB6.out.cell 2 rfl
                      have s3 := HB6.out.cell 3 rfl
                      have s4 := HB6.out.cell 4 rfl
                      have s5 := HB6.out.cell 5 rfl
                      have s6 := HB6.out.cell 6 rfl
                      have s7 := HB6.out.cell 7 rfl
                      have s8 := HB6.out.cell 8 rfl
                      have s9 := HB6.out.cell 9 rfl
                      have s10 := HB6.out.cell 10 rfl
                      have sl := HB6.out.lt
                      go_upto_region 28 with (first | (go_at_call 20; (with_reducible refine (HCm1.out _ ovA).mono ?_); rintro _ _ ⟨⟨e6, rfl⟩, rfl⟩) | (go_at_call 24; (with_reducible refine (HWy1.out _ ovA).mono ?_); rintro _ _ ⟨⟨e7, rfl⟩, rfl⟩))
                      refine gen_w ?_
                      intro W7 hW7
                      obtain ⟨q19, hq19⟩ : ∃ q, q = (over W6 e6).heap.size := ⟨_, rfl⟩
                      have B19 : Hid (Blk W7 q19 [.int .u32 (c0 : Nat), .int .u32 (c1 : Nat), .int .u32 (c2 : Nat)] 42) := hid (by rw [hW7, hq19]; exact (by exact blA))
                      have O76 : Hid (∃ e, W7 = over W6 e) := hid (by rw [hW7]; exact ovA)
                      have B13 := hid (Blk.chg HB6.out (Chg.of_ov O76.out []) (by simp))
                      have hq19w : W6.heap.size ≤ q19 := by rw [hq19]; simp
                      have HQ19 := hid hq19w
                      have hqe : W6.heap.size + e6.heap.size = q19 := by rw [hq19]; simp
                      rw [hqe]
                      clear hW7 hq19 hq19w hqe s0 s1 s2 s3 s4 s5 s6 s7 s8 s9 s10 sl HB6 HCm1 HWy1
                      have s0 := B13.out.cell 0 rfl
                      have s1 := B13.out.cell 1 rfl
                      have s2 := B13.out.cell 2 rfl
                      have s3 := B13.out.cell 3 rfl
                      have s4 := B13.out.cell 4 rfl
                      have s5 := B13.out.cell 5 rfl
                      have s6 := B13.out.cell 6 rfl
                      have s7 := B13.out.cell 7 rfl
                      have s8 := B13.out.cell 8 rfl
                      have s9 := B13.out.cell 9 rfl
                      have s10 := B13.out.cell 10 rfl
                      have sl := B13.out.lt
                      go_upto_region 30 with (first
                        | (go_at_call 19
                           (with_reducible refine (HTk.out _ (ov_tr O76.out ovA)).mono ?_)
                           rintro _ W8 ⟨v8, l8, F8, rfl, hm8, hg8, hd8, hc8, hs8, hn8⟩
                           have hc78 : Chg (sndF p pw pt mt mc ms F) W7 W8 := Chg.trans (by exact chA) hc8
                           have hqF : ∀ q, wo.heap.size ≤ q → q ∉ sndF p pw pt mt mc ms F := fun q hq hm => by have := (HD.out.sd.lt q hm).2; omega
                           have B138 := hid (B13.out.chg hc78 (hqF q13 HQ13.out))
                           have B198 := hid (B19.out.chg hc78 (hqF q19 (by have := HQ19.out; have := sz_over O6.out; omega)))
                           have C8 : Hid (Chg (sndF p pw pt mt mc ms F) wo W8) := hid (Chg.trans (Chg.of_ov (ov_tr O6.out O76.out) _) hc78)
                           have HN8 : Hid (∀ k ∈ F8, k ∈ F3 ∨ W3.heap.size ≤ k) := hid (fun k hk => by
                             rcases hn8 k hk with h1 | h1
                             · exact HN.out k h1
                             · right
                               have h2 := HC.out.size
                               have h3 := sz_over (ov_tr O6.out O76.out)
                               (try simp at h1)
                               omega)
                           have HD8 := hid hd8
                           have h8l : l8.length = rf.length := by have := congrArg List.length hm8; simpa using this
                           obtain ⟨a8, c8, rfl, _⟩ := Own.slice (Gx.cs_len _) hg8.row
                           rw [h8l]
                           have HCm2 : Hid (∀ W, (∃ e, W = over W8 e) → Calls Tryz.prog 20 #[.pointer (some ⟨p, 0, none⟩), .int .u32 (id : Nat)] W (Ret W (.agg #[.int .u32 (n0 : Nat), .int .u32 (n1 : Nat), .int .u32 (n2 : Nat)]))) := hid (fun W hW => by
                             have k := sCome_any (hd8.ov hW).sd id
                             rw [HCN.out] at k
                             exact k)
                           have HWy2 : Hid (∀ W, (∃ e, W = over W8 e) → Calls Tryz.prog 24 #[.pointer (some ⟨p, 0, none⟩)] W (Ret W (.int .i64 wy2))) := hid (fun W hW => by
                             have k := sWayN_any (hd8.ov hW).sd
                             rw [HWY2.out] at k
                             exact k)
                           clear hm8 hg8 hd8 hc8 hs8 hn8 hc78 hqF h8l s0 s1 s2 s3 s4 s5 s6 s7 s8 s9 s10 sl HTk)
                        | (go_at_call 20; (with_reducible refine (HCm2.out _ ovA).mono ?_); rintro _ _ ⟨⟨e8, rfl⟩, rfl⟩))
                      refine gen_w ?_
                      intro W9 hW9
                      obtain ⟨q24, hq24⟩ : ∃ q, q = (over W8 e8).heap.size := ⟨_, rfl⟩
                      have B24 : Hid (Blk W9 q24 [.int .u32 (n0 : Nat), .int .u32 (n1 : Nat), .int .u32 (n2 : Nat)] 42) := hid (by rw [hW9, hq24]; exact (by exact blA))
                      have O98 : Hid (∃ e, W9 = over W8 e) := hid (by rw [hW9]; exact ovA)
                      have B139 := hid (Blk.chg B138.out (Chg.of_ov O98.out []) (by simp))
                      have B199 := hid (Blk.chg B198.out (Chg.of_ov O98.out []) (by simp))
                      have hqe : W8.heap.size + e8.heap.size = q24 := by rw [hq24]; simp
                      rw [hqe]
                      clear hW9 hq24 hqe
                      have s1 := B139.out.cell 1 rfl
                      have sl := B139.out.lt
                      have t0 := B199.out.cell 0 rfl
                      have t1 := B199.out.cell 1 rfl
                      have t2 := B199.out.cell 2 rfl
                      have tl := B199.out.lt
                      have u0 := B24.out.cell 0 rfl
                      have u1 := B24.out.cell 1 rfl
                      have u2 := B24.out.cell 2 rfl
                      have ul := B24.out.lt
                      have HWy3 := hid (fun (W : World) (hW : ∃ e, W = over W9 e) => HWy2.out W (ov_tr O98.out hW))
                      go_wp2_with (first | (go_at_call 27; (with_reducible refine (HBf1.out _).mono ?_); rintro _ _ ⟨⟨e9, rfl⟩, rfl⟩) | (go_at_call 27; (with_reducible refine (HBf2.out _).mono ?_); rintro _ _ ⟨⟨e10, rfl⟩, rfl⟩) | (go_at_call 24; (with_reducible refine (HWy3.out _ ovA).mono ?_); rintro _ _ ⟨⟨e11, rfl⟩, rfl⟩))
                      go_roundw
                      case rel => exact ⟨k + 1, rst, F8, by omega, by go_num, HD8.out.ov (ov_tr O98.out ovA), HE8.out, (chg_F HC.out HN.out C8.out).trans (Chg.of_ov (ov_tr O98.out ovA) _), HN8.out, ov_tr (Chg.ov HO.out C8.out (fun i hi => (HD.out.sd.lt i hi).1)) (ov_tr O98.out ovA)⟩
                      case measure => (simp [intOf]; try omega)
                    · have e7 : ((EP : Int) != 7) = true := by rw [bne_iff_ne]; omega
                      have e7n : (EP != 7) = true := by rw [bne_iff_ne]; exact h7
                      have hb := hbad h7
                      simp only [Prod.mk.injEq] at hb
                      obtain ⟨⟨hrf, rfl, rfl⟩, rfl⟩ := hb
                      have hrf0 : rf.length = 0 := by rw [hrf]; rfl
                      have hd9 : decide ((0 : Int) < (rf.length : Int)) = false := decide_eq_false (by omega)
                      have hd9n : decide (0 < rf.length) = false := decide_eq_false (by omega)
                      clear hrf hrf0
                      obtain ⟨n0, h0⟩ : ∃ x, c0 = x := ⟨_, rfl⟩
                      obtain ⟨n1, h1⟩ : ∃ x, c1 = x := ⟨_, rfl⟩
                      obtain ⟨n2, h2⟩ : ∃ x, c2 = x := ⟨_, rfl⟩
                      obtain ⟨wy2, h3⟩ : ∃ x, wy = x := ⟨_, rfl⟩
                      have HCN : Hid (rst.come id = ⟨n0, n1, n2⟩) := hid (by rw [← h0, ← h1, ← h2]; exact hcw)
                      have HWY2 : Hid (sumN rst.ws = wy2) := hid (by rw [← h3]; exact hwy)
                      have HTk := hid htk
                      have HE8 : Hid (rst.e = 7) := hid HE.out
                      have HBf1 : Hid (∀ W, Calls Tryz.prog 27 #[.agg #[.int .u32 (n0 : Nat), .int .u32 (n1 : Nat), .int .u32 (n2 : Nat)], .agg #[.int .u32 (c0 : Nat), .int .u32 (c1 : Nat), .int .u32 (c2 : Nat)]] W (Ret W (.bool false))) := hid (by rw [← h0, ← h1, ← h2, ← bef_irr (⟨c0, c1, c2⟩ : Pl).w]; exact fun W => rbefore_any (⟨c0, c1, c2⟩ : Pl).w (⟨c0, c1, c2⟩ : Pl).w W)
                      have HBf2 : Hid (∀ W, Calls Tryz.prog 27 #[.agg #[.int .u32 (c0 : Nat), .int .u32 (c1 : Nat), .int .u32 (c2 : Nat)], .agg #[.int .u32 (n0 : Nat), .int .u32 (n1 : Nat), .int .u32 (n2 : Nat)]] W (Ret W (.bool false))) := hid (by rw [← h0, ← h1, ← h2, ← bef_irr (⟨c0, c1, c2⟩ : Pl).w]; exact fun W => rbefore_any (⟨c0, c1, c2⟩ : Pl).w (⟨c0, c1, c2⟩ : Pl).w W)
                      have hpq : plB n0 n1 n2 c0 c1 c2 = true := by rw [← h0, ← h1, ← h2]; exact plB_refl c0 c1 c2
                      have hww : (wy2 != wy) = false := by rw [← h3, bne_eq_false_iff_eq]
                      clear hr hke hbad htk hrr hcw hwy h7 h0 h1 h2 h3
                      have HCm1 : Hid (∀ W, (∃ e, W = over W6 e) → Calls Tryz.prog 20 #[.pointer (some ⟨p, 0, none⟩), .int .u32 (id : Nat)] W (Ret W (.agg #[.int .u32 (c0 : Nat), .int .u32 (c1 : Nat), .int .u32 (c2 : Nat)]))) := hid (fun W hW => by
                        have k := sCome_any (HDx.out.ov hW).sd id
                        rw [HCW.out] at k
                        exact k)
                      have HWy1 : Hid (∀ W, (∃ e, W = over W6 e) → Calls Tryz.prog 24 #[.pointer (some ⟨p, 0, none⟩)] W (Ret W (.int .i64 wy))) := hid (fun W hW => by
                        have k := sWayN_any (HDx.out.ov hW).sd
                        rw [HWY.out] at k
                        exact k)
                      have s0 := HB6.out.cell 0 rfl
                      have s1 := HB6.out.cell 1 rfl
                      have s2 := HB6.out.cell 2 rfl
                      have s3 := HB6.out.cell 3 rfl
                      have s4 := HB6.out.cell 4 rfl
                      have s5 := HB6.out.cell 5 rfl
                      have s6 := HB6.out.cell 6 rfl
                      have s7 := HB6.out.cell 7 rfl
                      have s8 := HB6.out.cell 8 rfl
                      have s9 := HB6.out.cell 9 rfl
                      have s10 := HB6.out.cell 10 rfl
                      have sl := HB6.out.lt
                      go_upto_region 28 with (first | (go_at_call 20; (with_reducible refine (HCm1.out _ ovA).mono ?_); rintro _ _ ⟨⟨e6, rfl⟩, rfl⟩) | (go_at_call 24; (with_reducible refine (HWy1.out _ ovA).mono ?_); rintro _ _ ⟨⟨e7, rfl⟩, rfl⟩))
                      refine gen_w ?_
                      intro W7 hW7
                      obtain ⟨q19, hq19⟩ : ∃ q, q = (over W6 e6).heap.size := ⟨_, rfl⟩
                      have B19 : Hid (Blk W7 q19 [.int .u32 (c0 : Nat), .int .u32 (c1 : Nat), .int .u32 (c2 : Nat)] 42) := hid (by rw [hW7, hq19]; exact (by exact blA))
                      have O76 : Hid (∃ e, W7 = over W6 e) := hid (by rw [hW7]; exact ovA)
                      have B13 := hid (Blk.chg HB6.out (Chg.of_ov O76.out []) (by simp))
                      have hq19w : W6.heap.size ≤ q19 := by rw [hq19]; simp
                      have HQ19 := hid hq19w
                      have hqe : W6.heap.size + e6.heap.size = q19 := by rw [hq19]; simp
                      rw [hqe]
                      clear hW7 hq19 hq19w hqe s0 s1 s2 s3 s4 s5 s6 s7 s8 s9 s10 sl HB6 HCm1 HWy1
                      have s0 := B13.out.cell 0 rfl
                      have s1 := B13.out.cell 1 rfl
                      have s2 := B13.out.cell 2 rfl
                      have s3 := B13.out.cell 3 rfl
                      have s4 := B13.out.cell 4 rfl
                      have s5 := B13.out.cell 5 rfl
                      have s6 := B13.out.cell 6 rfl
                      have s7 := B13.out.cell 7 rfl
                      have s8 := B13.out.cell 8 rfl
                      have s9 := B13.out.cell 9 rfl
                      have s10 := B13.out.cell 10 rfl
                      have sl := B13.out.lt
                      go_upto_region 30 with (first
                        | (go_at_call 19
                           (with_reducible refine (HTk.out _ (ov_tr O76.out ovA)).mono ?_)
                           rintro _ W8 ⟨v8, l8, F8, rfl, hm8, hg8, hd8, hc8, hs8, hn8⟩
                           have hc78 : Chg (sndF p pw pt mt mc ms F) W7 W8 := Chg.trans (by exact chA) hc8
                           have hqF : ∀ q, wo.heap.size ≤ q → q ∉ sndF p pw pt mt mc ms F := fun q hq hm => by have := (HD.out.sd.lt q hm).2; omega
                           have B138 := hid (B13.out.chg hc78 (hqF q13 HQ13.out))
                           have B198 := hid (B19.out.chg hc78 (hqF q19 (by have := HQ19.out; have := sz_over O6.out; omega)))
                           have C8 : Hid (Chg (sndF p pw pt mt mc ms F) wo W8) := hid (Chg.trans (Chg.of_ov (ov_tr O6.out O76.out) _) hc78)
                           have HN8 : Hid (∀ k ∈ F8, k ∈ F3 ∨ W3.heap.size ≤ k) := hid (fun k hk => by
                             rcases hn8 k hk with h1 | h1
                             · exact HN.out k h1
                             · right
                               have h2 := HC.out.size
                               have h3 := sz_over (ov_tr O6.out O76.out)
                               (try simp at h1)
                               omega)
                           have HD8 := hid hd8
                           have h8l : l8.length = rf.length := by have := congrArg List.length hm8; simpa using this
                           obtain ⟨a8, c8, rfl, _⟩ := Own.slice (Gx.cs_len _) hg8.row
                           rw [h8l]
                           have HCm2 : Hid (∀ W, (∃ e, W = over W8 e) → Calls Tryz.prog 20 #[.pointer (some ⟨p, 0, none⟩), .int .u32 (id : Nat)] W (Ret W (.agg #[.int .u32 (n0 : Nat), .int .u32 (n1 : Nat), .int .u32 (n2 : Nat)]))) := hid (fun W hW => by
                             have k := sCome_any (hd8.ov hW).sd id
                             rw [HCN.out] at k
                             exact k)
                           have HWy2 : Hid (∀ W, (∃ e, W = over W8 e) → Calls Tryz.prog 24 #[.pointer (some ⟨p, 0, none⟩)] W (Ret W (.int .i64 wy2))) := hid (fun W hW => by
                             have k := sWayN_any (hd8.ov hW).sd
                             rw [HWY2.out] at k
                             exact k)
                           clear hm8 hg8 hd8 hc8 hs8 hn8 hc78 hqF h8l s0 s1 s2 s3 s4 s5 s6 s7 s8 s9 s10 sl HTk)
                        | (go_at_call 20; (with_reducible refine (HCm2.out _ ovA).mono ?_); rintro _ _ ⟨⟨e8, rfl⟩, rfl⟩))
                      refine gen_w ?_
                      intro W9 hW9
                      obtain ⟨q24, hq24⟩ : ∃ q, q = (over W8 e8).heap.size := ⟨_, rfl⟩
                      have B24 : Hid (Blk W9 q24 [.int .u32 (n0 : Nat), .int .u32 (n1 : Nat), .int .u32 (n2 : Nat)] 42) := hid (by rw [hW9, hq24]; exact (by exact blA))
                      have O98 : Hid (∃ e, W9 = over W8 e) := hid (by rw [hW9]; exact ovA)
                      have B139 := hid (Blk.chg B138.out (Chg.of_ov O98.out []) (by simp))
                      have B199 := hid (Blk.chg B198.out (Chg.of_ov O98.out []) (by simp))
                      have hqe : W8.heap.size + e8.heap.size = q24 := by rw [hq24]; simp
                      rw [hqe]
                      clear hW9 hq24 hqe
                      have s1 := B139.out.cell 1 rfl
                      have sl := B139.out.lt
                      have t0 := B199.out.cell 0 rfl
                      have t1 := B199.out.cell 1 rfl
                      have t2 := B199.out.cell 2 rfl
                      have tl := B199.out.lt
                      have u0 := B24.out.cell 0 rfl
                      have u1 := B24.out.cell 1 rfl
                      have u2 := B24.out.cell 2 rfl
                      have ul := B24.out.lt
                      have HWy3 := hid (fun (W : World) (hW : ∃ e, W = over W9 e) => HWy2.out W (ov_tr O98.out hW))
                      go_wp2_with (first | (go_at_call 27; (with_reducible refine (HBf1.out _).mono ?_); rintro _ _ ⟨⟨e9, rfl⟩, rfl⟩) | (go_at_call 27; (with_reducible refine (HBf2.out _).mono ?_); rintro _ _ ⟨⟨e10, rfl⟩, rfl⟩) | (go_at_call 24; (with_reducible refine (HWy3.out _ ovA).mono ?_); rintro _ _ ⟨⟨e11, rfl⟩, rfl⟩))
                      go_roundw
                      case rel => exact ⟨k + 1, rst, F8, by omega, by go_num, HD8.out.ov (ov_tr O98.out ovA), HE8.out, (chg_F HC.out HN.out C8.out).trans (Chg.of_ov (ov_tr O98.out ovA) _), HN8.out, ov_tr (Chg.ov HO.out C8.out (fun i hi => (HD.out.sd.lt i hi).1)) (ov_tr O98.out ovA)⟩
                      case measure => (simp [intOf]; try omega)
          · have hdk : decide (k < ys.length) = false := decide_eq_false hlt
            clear hD hE hC hN hO
            go_wp2_with fail
            go_ret
            exact ⟨(ovB HO.out), rfl⟩
end Go.Proofs.YtnihngljmmbenaaGreatDoor
