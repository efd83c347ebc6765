import Derived.Test.YtnihngljmmbenaaGreatDoorSG
import Derived.Test.YtnihngljmmbenaaGreatDoorSB
import Derived.Test.YtnihngljmmbenaaGreatDoorSF
import Derived.Test.YtnihngljmmbenaaGreatDoorSD
namespace Go.Proofs.YtnihngljmmbenaaGreatDoor
set_option linter.unusedVariables false
set_option linter.unusedSimpArgs false
section
open Go.RowKit
attribute [local go_sem] over_drew chg_drew

theorem sd_due {base : Nat} {w : World} {p pw pt mt mc ms : Nat} {Fw : List Nat} {st : Sd} (h : SdAt base w p pw pt mt mc ms Fw st) (hn : st.now ≤ 1099511627776) (htk : st.tk ≤ 1000) (htr : ∀ x ∈ st.ts, x.tr ≤ 1000000) (hL : st.ts.length ≤ 1000) (W : World) (hW : ∃ e, W = over w e) :
    Calls Tryz.prog 61 #[.pointer (some ⟨pt, 0, none⟩), .int .u64 (st.now : Nat)] W (fun en w2 => ∃ v, en = .returned v ∧ OwnW W.heap.size w2 v (tduo st.ts st.now) ∧ SdTo base w p pw pt mt mc ms Fw { st with ts := st.ts.map (tupd st.now st.tk) } w2 Fw) := by
  obtain ⟨m, ht⟩ := h.tm
  refine (tDue_any (ht.ov hW) st.now hn htk htr hL).mono (fun en w2 hd => ?_)
  obtain ⟨v, m', rfl, h1, h2, h3⟩ := hd
  obtain ⟨_, h4, _⟩ := SdTo.tm h hW (v := v) (en := .returned v) ⟨rfl, m', h1, h2⟩
  exact ⟨v, rfl, h3, h4⟩
structure DueK (S : List (Nat × Sr)) (st st' : Sd) : Prop where
  e : st'.e = st.e
  now : st'.now = st.now
  most : st'.most = st.most
  tk : st'.tk = st.tk
  come : st'.come = st.come
  pl : (∀ v, IsPl (getS S v) (st.come v)) → (∀ v, IsPl (getS S v) (st.sent v)) → ∀ v, IsPl (getS S v) (st'.sent v)
theorem dueS_k (S : List (Nat × Sr)) (st : Sd) (u : Nat) : DueK S st (dueS S st u) := by
  unfold dueS
  simp only
  split
  · refine ⟨rfl, rfl, rfl, rfl, rfl, fun h1 h2 v => ?_⟩
    show IsPl _ (fset st.sent u (st.come u) v)
    unfold fset
    split
    · rename_i hx; subst hx; exact h1 u
    · exact h2 v
  · refine ⟨rfl, rfl, rfl, rfl, rfl, fun h1 h2 v => ?_⟩
    show IsPl _ (fset st.sent u (st.come u) v)
    unfold fset
    split
    · rename_i hx; subst hx; exact h1 u
    · exact h2 v
theorem due_k (S : List (Nat × Sr)) : ∀ (D : List Nat) (st : Sd), DueK S st (D.foldl (dueS S) st)
  | [], st => ⟨rfl, rfl, rfl, rfl, rfl, fun _ h => h⟩
  | u :: D, st => by
    have h1 := dueS_k S st u
    have h2 := due_k S D (dueS S st u)
    exact ⟨h2.e.trans h1.e, h2.now.trans h1.now, h2.most.trans h1.most, h2.tk.trans h1.tk, h2.come.trans h1.come, fun k1 k2 => h2.pl (by rw [h1.come]; exact k1) (h1.pl k1 k2)⟩
theorem dueS_eq {S : List (Nat × Sr)} {st : Sd} {u : Nat} (h : IsPl (getS S u) (st.come u)) : dueS S st u = if st.come u = (getS S u).fin then { st.back u with ts := tdel st.ts u } else st.back u := by
  obtain ⟨y, hy⟩ := hasS_is h
  unfold dueS
  have h1 : (st.back u).come u = st.come u := rfl
  simp only [h1, hy, Option.isNone_some, Bool.false_eq_true, false_or]
  rfl
set_option maxRecDepth 100000 in
set_option maxHeartbeats 8000000 in
theorem sTick_any {base : Nat} {w : World} {p pw pt mt mc ms : Nat} {Fw : List Nat} {st : Sd} (h : SdAt base w p pw pt mt mc ms Fw st) (hb : base ≤ w.heap.size) {b0 b n sz mb : Nat} {L : List Se} (hbk : BkAt b0 w b n sz mb L) (hsep : ∀ k ∈ bkB b mb L, k ∉ sndF p pw pt mt mc ms Fw) (hL : L.length ≤ 1000)
    (hcl : ∀ u, (getS (bkOf L) u).cl.length ≤ 900) (hall : ∀ u, (getS (bkOf L) u).all.length ≤ 60) (hplc : ∀ u, IsPl (getS (bkOf L) u) (st.come u)) (hpls : ∀ u, IsPl (getS (bkOf L) u) (st.sent u)) (tk : Nat) (hnow : st.now + tk ≤ 1099511627776) (htk : st.tk ≤ 1000) (htr : ∀ x ∈ st.ts, x.tr ≤ 1000000) (hts : st.ts.length ≤ 1000) :
    Calls Tryz.prog 25 #[.pointer (some ⟨p, 0, none⟩), .pointer (some ⟨b, 0, none⟩), .int .u32 (tk : Nat)] w
      (SdFr base w p pw pt mt mc ms Fw st.e (tickS (bkOf L) (srtN (L.map (·.id))) st tk).1 (tickS (bkOf L) (srtN (L.map (·.id))) st tk).2 (fun v => v)) := by
  have H := hid h
  have c3 := h.blk.cell 3 rfl
  have cf := h.blk.free 3
  have hl := h.here.1
  have HB := hid hb
  have HBK := hid (fun (wr : World) (hc : Chg (sndF p pw pt mt mc ms Fw) w wr) => hbk.cg hc hsep)
  have HSEP := hid (fun k (hk : k ∈ bkB b mb L) => And.intro (hbk.blt k hk).2 (hsep k hk))
  have HL := hid hL
  have HCL := hid hcl
  have HALL := hid hall
  have HPC := hid hplc
  have HPS := hid hpls
  have HNOW := hid hnow
  have HTK := hid htk
  have HTR := hid htr
  have HTS := hid hts
  have hw : IntKind.u64.wrap ((st.now : Int) + (tk : Int)) = ((st.now + tk : Nat) : Int) := by rw [u64_in (by omega) (by omega)]; omega
  have hwt : IntKind.u64.wrap (tk : Int) = (tk : Int) := u64_in (by omega) (by omega)
  obtain ⟨r, hr⟩ : ∃ r, tickS (bkOf L) (srtN (L.map (·.id))) st tk = r := ⟨_, rfl⟩
  rw [hr]
  have HR := hid hr
  obtain ⟨nw, hnw⟩ : ∃ x, st.now + tk = x := ⟨_, rfl⟩
  rw [hnw] at hw hnow HNOW
  have HNW := hid hnw
  clear h hb hbk hsep hL hcl hall hplc hpls htk htr hts hr hnw
  go_enter Tryz.func25, Tryz.ntmps25
  go_wp2_with fail
  refine gen_w ?_
  intro W1 hW1
  have hc1 : Chg [p] w W1 := by rw [hW1]; exact (by exact chA)
  have hB1 : Blk W1 p [.pointer (some ⟨pw, 0, none⟩), .pointer (some ⟨pt, 0, none⟩), .int .u32 (st.e : Nat), .int .u64 (nw : Nat), .map (some mc), .map (some ms)] 98 := by rw [hW1]; exact H.out.blk.set 3 _
  obtain ⟨stN, hstN⟩ : ∃ x : Sd, ({ st with now := nw } : Sd) = x := ⟨_, rfl⟩
  have t1 : SdTo base w p pw pt mt mc ms Fw stN W1 Fw := by
    rw [← hstN]
    exact ⟨hc1.mono (fun i hi => .inl (by simp at hi; simp [sndF, hi])), H.out.now_ hc1 hB1, fun _ h => .inl h⟩
  have T1 := hid t1
  have hN : stN.now = nw ∧ stN.tk = st.tk ∧ stN.ts = st.ts ∧ stN.e = st.e ∧ stN.come = st.come ∧ stN.sent = st.sent := by rw [← hstN]; exact ⟨rfl, rfl, rfl, rfl, rfl, rfl⟩
  have HN := hid hN
  have HSN := hid hstN
  have hdue0 := sd_due t1.at_ (by rw [hN.1]; exact hnow) (by rw [hN.2.1]; exact HTK.out) (by rw [hN.2.2.1]; exact HTR.out) (by rw [hN.2.2.1]; exact HTS.out)
  rw [hN.1, hN.2.1, hN.2.2.1] at hdue0
  have HDue := hid hdue0
  have c1' := hB1.cell 1 rfl
  have c3' := hB1.cell 3 rfl
  have hl' := hB1.lt
  clear hW1 hc1 hB1 t1 hN hdue0 c3 cf hl hstN hw hwt hnow
  refine M2.wp_region_mix [8] 8 (by kernel_rfl) (by kernel_rfl) (by decide) ?_
  simp only [M2.td]
  with_reducible refine M2.mixL_quiet 8 (by kernel_rfl) ?_
  simp only [M2.td]
  repeat (go_big_quiet_step (fail))
  with_reducible refine wpQuiet_nil ?_
  with_reducible refine M2.mixL_nil ?_
  with_reducible refine M2.mixL_eff (by decide) ?_
  go_wp2_with ((go_at_call 61; (with_reducible refine (HDue.out _ ovA).mono ?_); rintro _ w2 ⟨v2, rfl, o2, hto⟩; have T2 := hid (T1.out.trans hto); obtain ⟨a2, cp2, rfl, s2⟩ := Own.slice wcs_len o2; have S2 := hid s2; have HN2 : Hid (∀ ad, a2 = some ad → ad.block ∉ sndF p pw pt mt mc ms Fw) := hid (fun ad had hm => by subst had; have h1 := (Own.lt o2 (g := ad.block) (by simp [Value.ownBlock])).1; have := (T1.out.at_.lt _ hm).2; simp at h1; omega); clear o2 s2 hto HDue c1' c3' hl'))
  refine M2.MixQ.mk trivial ?_
  with_reducible refine M2.mixL_quiet 2 (by kernel_rfl) ?_
  simp only [M2.td]
  repeat (go_big_quiet_step (fail))
  with_reducible refine wpQuiet_nil ?_
  with_reducible refine M2.mixL_nil ?_
  obtain ⟨st2, hst2⟩ : ∃ x : Sd, ({ stN with now := nw, tk := st.tk, ts := st.ts.map (tupd nw st.tk) } : Sd) = x := ⟨_, rfl⟩
  have t2 := T2.out
  rw [show ({ e := stN.e, now := nw, most := stN.most, tk := st.tk, come := stN.come, sent := stN.sent, ws := stN.ws, ts := List.map (tupd nw st.tk) st.ts } : Sd) = st2 from hst2] at t2
  have T3 := hid t2
  obtain ⟨D, hD⟩ : ∃ D, tduo st.ts nw = D := ⟨_, rfl⟩
  rw [hD] at S2 ⊢
  have hrr : r = pump (bkOf L) (srtN (L.map (·.id))) (D.foldl (dueS (bkOf L)) st2) := by
    rw [← HR.out, ← hD, ← hst2, ← HSN.out]
    unfold tickS
    simp only [HNW.out]
  have h2 : st2.e = st.e ∧ st2.now = nw ∧ st2.tk = st.tk ∧ st2.come = st.come ∧ st2.sent = st.sent := by rw [← hst2, ← HSN.out]; exact ⟨rfl, rfl, rfl, rfl, rfl⟩
  have H2 := hid h2
  have HRR := hid hrr
  have HMX := len_max S2.out
  clear hst2 t2 T2 hD hrr h2 HSN
  go_wp2_with fail
  go_loopw [8, 9, 10, 30] (fun _ _ _ i wr => ∃ (k : Nat) (F : List Nat), k ≤ D.length ∧ i = .int .i64 (k : Nat) ∧ SdTo base w2 p pw pt mt mc ms Fw ((D.take k).foldl (dueS (bkOf L)) st2) wr F) (fun _ _ _ i _ => D.length - (intOf i).toNat)
  case atStart => exact ⟨0, Fw, Nat.zero_le _, rfl, SdTo.refl T3.out.at_⟩
  case round =>
    obtain ⟨k, F, hk, rfl, hT⟩ := hrel
    have hS : SlW wr a2 cp2 D := Sl.chg S2.out hT.ch HN2.out
    by_cases hlt : k < D.length
    · obtain ⟨sb, so, rfl, hsb, q0⟩ := slW_at hS hlt
      have htk := List.take_succ_eq_append_getElem hlt
      obtain ⟨u, hu⟩ : ∃ u, D[k]'hlt = u := ⟨_, rfl⟩
      rw [hu] at q0 htk
      have hfo : (D.take (k + 1)).foldl (dueS (bkOf L)) st2 = dueS (bkOf L) ((D.take k).foldl (dueS (bkOf L)) st2) u := by rw [htk, List.foldl_append]; rfl
      have hkx := due_k (bkOf L) (D.take k) st2
      obtain ⟨sx, hsx⟩ : ∃ x, (D.take k).foldl (dueS (bkOf L)) st2 = x := ⟨_, rfl⟩
      rw [hsx] at hT hfo hkx
      have hcx : sx.come u = st.come u := by rw [hkx.come, H2.out.2.2.2.1]
      have hpx : IsPl (getS (bkOf L) u) (sx.come u) := by rw [hcx]; exact HPC.out u
      rw [dueS_eq hpx] at hfo
      have HFO := hid hfo
      have hd : decide (k < D.length) = true := decide_eq_true hlt
      obtain ⟨⟨t0, t1, t2⟩, hcu⟩ : ∃ q, sx.come u = q := ⟨_, rfl⟩
      rw [hcu] at hpx
      obtain ⟨c, cb, hh⟩ := hpx
      have TX := hid hT
      have HBa := hid (fun W (hW : ∃ e, W = over wr e) => sBack_any (hT.at_.ov hW) u)
      have HHx := hid hh
      obtain ⟨sy, hsy⟩ : ∃ x, sx.back u = x := ⟨_, rfl⟩
      have hcy : sy.come u = ⟨t0, t1, t2⟩ := by rw [← hsy]; exact hcu
      have HCY := hid hcy
      rw [hsy] at HBa
      have HSY : Hid (sx.back u = sy) := hid hsy
      have HCX : Hid (sx.come u = ⟨t0, t1, t2⟩) := hid hcu
      have HTS2 : Hid (sx.ts = sy.ts) := hid (by rw [← hsy]; rfl)
      obtain ⟨dn, hdn⟩ : ∃ x, decide (sy.come u = (getS (bkOf L) u).fin) = x := ⟨_, rfl⟩
      have HDN := hid hdn
      clear hT hS hu htk hfo hkx hsx hcx hh hsy hcy hcu hdn
      have hdc : sx.come u = sy.come u := by rw [HCX.out, HCY.out]
      cases dn with
      | true =>
        have hfo2 := HFO.out
        rw [if_pos (by rw [hdc]; exact of_decide_eq_true HDN.out), HSY.out, HTS2.out] at hfo2
        have HF2 := hid hfo2
        clear hfo2 hdc
        go_wp2_with (first
          | (go_at_call 55
             (with_reducible refine (HBa.out _ ovA).mono ?_)
             rintro _ w3 ⟨rfl, F3, hto⟩
             have T4 := hid (TX.out.trans (SdTo.ov0 (by exact ovA) hto))
             have hbk3 := HBK.out w3 (T3.out.trans T4.out).ch
             have d4 := T4.out.at_.blk.cell 4 rfl
             have d1 := T4.out.at_.blk.cell 1 rfl
             have dl := T4.out.at_.here.1
             obtain ⟨mm, hk1, hk2⟩ := T4.out.at_.cm
             have hku := hk2 u
             rw [HCY.out] at hku
             simp only at hku
             have HV : Hid ((if false = true then (.tuple #[(kGet mm u).getD (.agg #[.int .u32 0, .int .u32 0, .int .u32 0]), .bool (kGet mm u).isSome] : Value) else (kGet mm u).getD (.agg #[.int .u32 0, .int .u32 0, .int .u32 0])) = .agg #[.int .u32 (t0 : Nat), .int .u32 (t1 : Nat), .int .u32 (t2 : Nat)]) := hid hku
             have HK := hid hk1
             have hsum := fun (W : World) (hW : ∃ e, W = over w3 e) => sum_any (bk_ov hbk3 hW) u HHx.out (HCL.out u)
             obtain ⟨sm, hsm⟩ : ∃ x, sumP c t2 = x := ⟨_, rfl⟩
             have HSum : Hid (∀ W, (∃ e, W = over w3 e) → Calls Tryz.prog 18 #[.pointer (some ⟨b, 0, none⟩), .int .u32 (u : Nat), .agg #[.int .u32 (t0 : Nat), .int .u32 (t1 : Nat), .int .u32 (t2 : Nat)]] W (Ret W (.tuple #[.int .u64 (sm : Nat), .int .u16 0]))) := hid (by rw [← hsm]; exact hsum)
             have hdone := fun (W : World) (hW : ∃ e, W = over w3 e) => sDone_any (T4.out.at_.ov hW) (bk_ov hbk3 hW) (u := u) rfl (HCL.out u)
             rw [HDN.out] at hdone
             have HDone := hid hdone
             have HSt := hid (sd_stop T4.out.at_ u)
             clear hto hbk3 hk1 hk2 hku hsum hsm hdone HBa)
          | (at_lookup; refine wpList_klookup rfl (.tmp 43) (.tmp 44) 96 false rfl 24 42 (key_u32 (by kernel_rfl)) (by kernel_rfl) (.agg #[.int .u32 0, .int .u32 0, .int .u32 0]) (pl_zero_run _) mc mm rfl (MapK.chg (F := []) HK.out (by exact chA) (by simp)) u rfl _ HV.out ?_)
          | (go_at_call 18; (with_reducible refine (HSum.out _ ovA).mono ?_); rintro _ _ ⟨⟨e5, rfl⟩, rfl⟩)
          | (go_at_call 56; (with_reducible refine (HDone.out _ ovA).mono ?_); rintro _ _ ⟨⟨e6, rfl⟩, rfl⟩)
          | (go_at_call 57; (with_reducible refine (HSt.out _ ovA).mono ?_); rintro _ w7 ⟨⟨v7, rfl⟩, hto, hc7⟩; have T7 := hid (T4.out.trans hto); clear hto hc7))
        go_roundw
        case rel => exact ⟨k + 1, F3, by omega, by go_num, by rw [HF2.out]; exact T7.out⟩
        case measure => (simp [intOf]; try omega)
      | false =>
        have hfo2 := HFO.out
        rw [if_neg (by rw [hdc]; exact of_decide_eq_false HDN.out), HSY.out] at hfo2
        have HF2 := hid hfo2
        clear hfo2 hdc
        go_wp2_with (first
          | (go_at_call 55
             (with_reducible refine (HBa.out _ ovA).mono ?_)
             rintro _ w3 ⟨rfl, F3, hto⟩
             have T4 := hid (TX.out.trans (SdTo.ov0 (by exact ovA) hto))
             have hbk3 := HBK.out w3 (T3.out.trans T4.out).ch
             have d4 := T4.out.at_.blk.cell 4 rfl
             have d1 := T4.out.at_.blk.cell 1 rfl
             have dl := T4.out.at_.here.1
             obtain ⟨mm, hk1, hk2⟩ := T4.out.at_.cm
             have hku := hk2 u
             rw [HCY.out] at hku
             simp only at hku
             have HV : Hid ((if false = true then (.tuple #[(kGet mm u).getD (.agg #[.int .u32 0, .int .u32 0, .int .u32 0]), .bool (kGet mm u).isSome] : Value) else (kGet mm u).getD (.agg #[.int .u32 0, .int .u32 0, .int .u32 0])) = .agg #[.int .u32 (t0 : Nat), .int .u32 (t1 : Nat), .int .u32 (t2 : Nat)]) := hid hku
             have HK := hid hk1
             have hsum := fun (W : World) (hW : ∃ e, W = over w3 e) => sum_any (bk_ov hbk3 hW) u HHx.out (HCL.out u)
             obtain ⟨sm, hsm⟩ : ∃ x, sumP c t2 = x := ⟨_, rfl⟩
             have HSum : Hid (∀ W, (∃ e, W = over w3 e) → Calls Tryz.prog 18 #[.pointer (some ⟨b, 0, none⟩), .int .u32 (u : Nat), .agg #[.int .u32 (t0 : Nat), .int .u32 (t1 : Nat), .int .u32 (t2 : Nat)]] W (Ret W (.tuple #[.int .u64 (sm : Nat), .int .u16 0]))) := hid (by rw [← hsm]; exact hsum)
             have hdone := fun (W : World) (hW : ∃ e, W = over w3 e) => sDone_any (T4.out.at_.ov hW) (bk_ov hbk3 hW) (u := u) rfl (HCL.out u)
             rw [HDN.out] at hdone
             have HDone := hid hdone
             have HSt := hid (sd_stop T4.out.at_ u)
             clear hto hbk3 hk1 hk2 hku hsum hsm hdone HBa)
          | (at_lookup; refine wpList_klookup rfl (.tmp 43) (.tmp 44) 96 false rfl 24 42 (key_u32 (by kernel_rfl)) (by kernel_rfl) (.agg #[.int .u32 0, .int .u32 0, .int .u32 0]) (pl_zero_run _) mc mm rfl (MapK.chg (F := []) HK.out (by exact chA) (by simp)) u rfl _ HV.out ?_)
          | (go_at_call 18; (with_reducible refine (HSum.out _ ovA).mono ?_); rintro _ _ ⟨⟨e5, rfl⟩, rfl⟩)
          | (go_at_call 56; (with_reducible refine (HDone.out _ ovA).mono ?_); rintro _ _ ⟨⟨e6, rfl⟩, rfl⟩)
          | (go_at_call 57; (with_reducible refine (HSt.out _ ovA).mono ?_); rintro _ w7 ⟨⟨v7, rfl⟩, hto, hc7⟩; have T7 := hid (T4.out.trans hto); clear hto hc7))
        go_roundw
        case rel => exact ⟨k + 1, F3, by omega, by go_num, by rw [HF2.out]; exact T4.out.ov ovA⟩
        case measure => (simp [intOf]; try omega)
    · obtain rfl : k = D.length := by omega
      rw [List.take_length] at hT
      have hd : decide (D.length < D.length) = false := decide_eq_false (by omega)
      have TX := hid (T3.out.trans hT)
      have hkx := due_k (bkOf L) D st2
      obtain ⟨sx, hsx⟩ : ∃ x, D.foldl (dueS (bkOf L)) st2 = x := ⟨_, rfl⟩
      have hr2 := HRR.out
      rw [hsx] at TX hkx hr2
      have HR2 := hid hr2
      have HPu : Hid (∀ W, (∃ e, W = over wr e) → Calls Tryz.prog 15 #[.pointer (some ⟨p, 0, none⟩), .pointer (some ⟨b, 0, none⟩)] W (fun en w' => ∃ v, en = .returned v ∧ SdFr base w p pw pt mt mc ms Fw st.e (pump (bkOf L) (srtN (L.map (·.id))) sx).1 (pump (bkOf L) (srtN (L.map (·.id))) sx).2 (fun v => v) (.returned v) w')) := hid (fun W hW => by
        have k := sPump_any (TX.out.at_.ov hW) (Nat.le_trans HB.out (Nat.le_trans TX.out.sz (sz_over hW))) (bk_ov (HBK.out _ TX.out.ch) hW) (fun k hk => TX.out.apart (HSEP.out k hk).1 (HSEP.out k hk).2) HL.out HCL.out HALL.out (fun v _ => hkx.pl (by rw [H2.out.2.2.2.1]; exact HPC.out) (by rw [H2.out.2.2.2.2]; exact HPS.out) v) (by rw [hkx.now, hkx.tk, H2.out.2.1, H2.out.2.2.1]; have := HNOW.out; have := HTK.out; omega)
        rw [hkx.e, H2.out.1] at k
        exact k.mono (fun en w' hf => SdFr.to (out' := fun v => v) (TX.out.ov hW) hf))
      clear hT hS hkx hsx hr2
      go_wp2_with (go_at_call 15; (with_reducible refine (HPu.out _ ovA).mono ?_); rintro _ w9 ⟨v9, rfl, hf9⟩; have HF9 := hid hf9; clear hf9)
      go_ret
      rw [HR2.out]
      exact SdFr.ov HF9.out ovA
end
section
open Go.RowKit
attribute [local go_sem] over_drew chg_drew

theorem beh_take {l : List Int} {k : Nat} (h : k < l.length) : (l.take (k + 1)).sum = (l.take k).sum + l[k] := by
  rw [List.take_succ_eq_append_getElem h, List.sum_append]; simp
theorem beh_bnd {l : List Int} {B : Int} (hB : 0 ≤ B) (h : ∀ x ∈ l, 0 ≤ x ∧ x ≤ B) : ∀ k, 0 ≤ (l.take k).sum ∧ (l.take k).sum ≤ B * l.length := by
  induction l with
  | nil => intro k; simp
  | cons a l ih =>
    intro k
    cases k with
    | zero => simp; exact Int.mul_nonneg hB (by omega)
    | succ k =>
      have h1 := h a (by simp)
      have h2 := ih (fun x hx => h x (by simp [hx])) k
      simp only [List.take_succ_cons, List.sum_cons, List.length_cons, Int.natCast_add, Int.mul_add]
      omega
set_option maxRecDepth 100000 in
set_option maxHeartbeats 4000000 in
theorem sBacklog_any {base : Nat} {w : World} {p pw pt mt mc ms : Nat} {Fw : List Nat} {st : Sd} (h : SdAt base w p pw pt mt mc ms Fw st) {b0 b n sz mb : Nat} {L : List Se} (hbk : BkAt b0 w b n sz mb L) (hL : L.length ≤ 1000)
    (hcl : ∀ u, (getS (bkOf L) u).cl.length ≤ 900) (hplc : ∀ u, IsPl (getS (bkOf L) u) (st.come u)) :
    Calls Tryz.prog 26 #[.pointer (some ⟨p, 0, none⟩), .pointer (some ⟨b, 0, none⟩)] w (Ret w (.int .i64 (backlogS (bkOf L) (srtN (L.map (·.id))) st))) := by
  have HSer := hid (fun (W : World) (hW : ∃ e, W = over w e) => series_any (bk_ov hbk hW) (by omega))
  have HBh := hid (fun (u : Nat) (p : Pl) (hp : IsPl (getS (bkOf L) u) p) (W : World) (hW : ∃ e, W = over w e) => (by obtain ⟨c, cl, hh⟩ := hp; exact behind_any (bk_ov hbk hW) u hh (hcl u) : Calls Tryz.prog 62 #[.pointer (some ⟨b, 0, none⟩), .int .u32 (u : Nat), p.v] W (Ret W (.tuple #[.int .i64 ((getS (bkOf L) u).behind p), .int .u16 0]))))
  have hkl : (srtN (L.map (·.id))).length ≤ 1000 := by rw [(srtN_perm _).length_eq, List.length_map]; exact hL
  obtain ⟨ks, hks⟩ : ∃ ks, srtN (L.map (·.id)) = ks := ⟨_, rfl⟩
  rw [hks] at HSer hkl ⊢
  have hbq : ∀ u, 0 ≤ behS (getS (bkOf L) u) (st.come u) ∧ behS (getS (bkOf L) u) (st.come u) ≤ 3157104 ∧ behS (getS (bkOf L) u) (st.come u) = (getS (bkOf L) u).behind (st.come u) := fun u => by
    obtain ⟨y, hy⟩ := hasS_is (hplc u)
    have he : behS (getS (bkOf L) u) (st.come u) = (getS (bkOf L) u).behind (st.come u) := by unfold behS; rw [hy]; rfl
    obtain ⟨c, cl, hh⟩ := hplc u
    have h1 := behind_lo hh
    have h2 := behind_hi (getS_ok hbk u) (hcl u) (st.come u)
    rw [he]
    exact ⟨h1, by omega, rfl⟩
  obtain ⟨T, hT⟩ : ∃ T, ks.map (fun u => behS (getS (bkOf L) u) (st.come u)) = T := ⟨_, rfl⟩
  have hTl : T.length = ks.length := by rw [← hT, List.length_map]
  have hTB := beh_bnd (l := T) (B := 3157104) (by omega) (fun x hx => by rw [← hT] at hx; obtain ⟨u, _, rfl⟩ := List.mem_map.1 hx; exact ⟨(hbq u).1, (hbq u).2.1⟩)
  have hbl : backlogS (bkOf L) ks st = T.sum := by unfold backlogS; rw [hT]
  rw [hbl]
  have HTA : Hid (∀ k (hk : k < ks.length) (hk2 : k < T.length), T[k] = (getS (bkOf L) ks[k]).behind (st.come ks[k])) := hid (fun k hk hk2 => by
    have h1 : T[k]? = (ks.map (fun u => behS (getS (bkOf L) u) (st.come u)))[k]? := by rw [hT]
    rw [List.getElem?_map, List.getElem?_eq_getElem hk, List.getElem?_eq_getElem hk2] at h1
    have h9 := Option.some.inj h1
    rw [h9]
    exact (hbq _).2.2)
  have HTB := hid hTB
  have HTL := hid hTl
  have HPC := hid hplc
  have H := hid h
  have c4 := h.blk.cell 4 rfl
  have hl := h.here.1
  have HCM := hid h.cm
  clear h hbk hL hcl hplc hks hbq hT hTl hTB hbl
  go_enter Tryz.func26, Tryz.ntmps26
  go_wp2_with (go_at_call 16; (with_reducible refine (HSer.out _ ovA).mono ?_); rintro _ _ ⟨⟨e2, rfl⟩, v2, rfl, o2⟩; obtain ⟨a2, c2, rfl, s2⟩ := Own.slice wcs_len o2; have S2 := hid s2; clear o2 s2)
  go_loopw [5, 7, 8, 9, 13] (fun v _ _ _ i wr => ∃ k : Nat, k ≤ ks.length ∧ i = .int .i64 (k : Nat) ∧ v = .int .i64 (T.take k).sum ∧ Ov (over w e2) wr) (fun _ _ _ _ i _ => ks.length - (intOf i).toNat)
  case atStart => exact ⟨0, Nat.zero_le _, rfl, by simp, ovA⟩
  case round =>
    obtain ⟨k, hk, rfl, rfl, ⟨e3, rfl⟩⟩ := hrel
    have hmk := len_max S2.out
    by_cases hlt : k < ks.length
    · obtain ⟨sb, so, rfl, hsb, q0⟩ := slW_at S2.out hlt
      simp only [size_over] at hsb
      have hk2 : k < T.length := by rw [HTL.out]; exact hlt
      have hbt := beh_take hk2
      have hta := HTA.out k hlt hk2
      have hb1 := HTB.out k
      have hb2 := HTB.out (k + 1)
      rw [hbt] at hb2
      obtain ⟨u, hu⟩ : ∃ u, ks[k]'hlt = u := ⟨_, rfl⟩
      rw [hu] at q0 hta
      have hpl := HPC.out u
      obtain ⟨⟨t0, t1, t2⟩, hcu⟩ : ∃ q, st.come u = q := ⟨_, rfl⟩
      rw [hcu] at hpl hta
      obtain ⟨X, hX⟩ : ∃ X, (T.take k).sum = X := ⟨_, rfl⟩
      obtain ⟨Y, hY⟩ : ∃ Y, T[k]'hk2 = Y := ⟨_, rfl⟩
      rw [hX] at hbt hb1 hb2 ⊢
      rw [hY] at hbt hb2 hta
      have hBh := HBh.out u _ hpl
      rw [← hta] at hBh
      have HBh2 : Hid (∀ W, (∃ e, W = over w e) → Calls Tryz.prog 62 #[.pointer (some ⟨b, 0, none⟩), .int .u32 (u : Nat), .agg #[.int .u32 (t0 : Nat), .int .u32 (t1 : Nat), .int .u32 (t2 : Nat)]] W (Ret W (.tuple #[.int .i64 Y, .int .u16 0]))) := hid hBh
      obtain ⟨mm, hk1, hk9⟩ := HCM.out
      have hku := hk9 u
      rw [hcu] at hku
      simp only at hku
      have HV : Hid ((if false = true then (.tuple #[(kGet mm u).getD (.agg #[.int .u32 0, .int .u32 0, .int .u32 0]), .bool (kGet mm u).isSome] : Value) else (kGet mm u).getD (.agg #[.int .u32 0, .int .u32 0, .int .u32 0])) = .agg #[.int .u32 (t0 : Nat), .int .u32 (t1 : Nat), .int .u32 (t2 : Nat)]) := hid hku
      have HK := hid hk1
      have hd : decide (k < ks.length) = true := decide_eq_true hlt
      have HBT := hid hbt
      have hl1000 : (T.length : Int) ≤ 1000 := by rw [HTL.out]; omega
      have hx0 : 0 ≤ X := hb1.1
      have hxm : X ≤ 3157104000 := by have := hb1.2; omega
      have hxy : 0 ≤ X + Y ∧ X + Y ≤ 3157104000 := ⟨hb2.1, by have := hb2.2; omega⟩
      clear hta hb1 hb2 hu hpl hcu hX hY hBh hk1 hk9 hku hbt hl1000
      go_wp2_with (first
        | (at_lookup; refine wpList_klookup rfl (.tmp 23) (.tmp 24) 96 false rfl 24 42 (key_u32 (by kernel_rfl)) (by kernel_rfl) (.agg #[.int .u32 0, .int .u32 0, .int .u32 0]) (pl_zero_run _) mc mm rfl (MapK.chg (F := []) HK.out (by exact chA) (by simp)) u rfl _ HV.out ?_)
        | (go_at_call 62; (with_reducible refine (HBh2.out _ ovA).mono ?_); rintro _ _ ⟨⟨e5, rfl⟩, rfl⟩))
      go_roundw
      case rel => exact ⟨k + 1, by omega, by go_num, by rw [HBT.out], ovA⟩
      case measure => (simp [intOf]; try omega)
    · obtain rfl : k = ks.length := by omega
      have hd : decide (ks.length < ks.length) = false := decide_eq_false (by omega)
      have hall : (T.take ks.length).sum = T.sum := by rw [List.take_of_length_le (by rw [HTL.out]; exact Nat.le_refl _)]
      rw [hall]
      clear hall
      go_wp2
      go_ret
      exact ⟨ovA, rfl⟩
end
end Go.Proofs.YtnihngljmmbenaaGreatDoor
