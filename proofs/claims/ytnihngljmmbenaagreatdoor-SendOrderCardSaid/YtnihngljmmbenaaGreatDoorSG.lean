import Derived.Test.YtnihngljmmbenaaGreatDoorSE
import Derived.Test.YtnihngljmmbenaaGreatDoorSF
import Derived.Deep.CutRange
import Derived.Deep.CutBlock
namespace Go.Proofs.YtnihngljmmbenaaGreatDoor
set_option linter.unusedVariables false
set_option linter.unusedSimpArgs false
section
open Go.RowKit
attribute [local go_sem] over_drew chg_drew

def tk1 (st : Sd) (u : Nat) (p : Pl) : Sd := { st with come := fset st.come u p, ws := outW (ackQ (u : Nat) p.w) st.ws }
def tk3 (st2 : Sd) (u : Nat) (p : Pl) : Sd := if bef (st2.sent u).w p.w = true then { st2 with sent := fset st2.sent u p } else st2
def tk4 (s : Sr) (go : Bool) (st3 : Sd) (u : Nat) (p : Pl) : Sd := if go = false then st3 else if p = s.fin then { st3 with ts := tdel st3.ts u } else { st3 with ts := tput st3.ts ⟨u, 0, st3.now + st3.tk⟩ }
def tkS (s : Sr) (nack : Bool) (st : Sd) (u : Nat) (p : Pl) : Sd := tk4 s (bef (st.come u).w p.w || nack) (tk3 (if nack = true then (tk1 st u p).back u else tk1 st u p) u p) u p
theorem takeS_go {S : List (Nat × Sr)} {ks : List Nat} {st : Sd} {kd e u sum : Nat} {p : Pl} {c : List Sm} {b : Bool} (h1 : kd = 4 ∨ kd = 5) (h2 : e = st.e) (h3 : hasS (getS S u) p = Option.some (c, b)) (h4 : bef p.w (st.come u).w = false) (h5 : sumP c p.count = sum) :
    takeS S ks st kd e u p sum = (((pump S ks (tkS (getS S u) (decide (kd = 5)) st u p)).1, bef (st.come u).w p.w, 0), (pump S ks (tkS (getS S u) (decide (kd = 5)) st u p)).2) := by
  unfold takeS
  rw [if_neg (by omega), h3]
  simp only [h4, Bool.false_eq_true, if_false]
  rw [if_neg (by simp [h5])]
  have hk : tkS (getS S u) (decide (kd = 5)) st u p = tk4 (getS S u) (bef (st.come u).w p.w || decide (kd = 5)) (tk3 (if kd = 5 then (tk1 st u p).back u else tk1 st u p) u p) u p := by
    unfold tkS
    simp only [decide_eq_true_eq]
  rw [hk]
  unfold tk4
  have hg : (bef (st.come u).w p.w || decide (kd = 5)) = false ↔ bef (st.come u).w p.w = false ∧ kd ≠ 5 := by simp
  by_cases hx : bef (st.come u).w p.w = false ∧ kd ≠ 5
  · rw [if_pos (hg.2 hx)]
    simp only [hx, ne_eq, not_false_eq_true, and_self, if_true]
    rfl
  · rw [if_neg (fun h => hx (hg.1 h))]
    simp only [hx, if_false]
    rfl
theorem takeS_bad {S : List (Nat × Sr)} {ks : List Nat} {st : Sd} {kd e u sum : Nat} {p : Pl} (h : (kd ≠ 4 ∧ kd ≠ 5) ∨ e ≠ st.e) : takeS S ks st kd e u p sum = (([], false, 1), st) := by
  unfold takeS; rw [if_pos h]
theorem takeS_no {S : List (Nat × Sr)} {ks : List Nat} {st : Sd} {kd e u sum : Nat} {p : Pl} (h1 : kd = 4 ∨ kd = 5) (h2 : e = st.e) (h3 : hasS (getS S u) p = none) : takeS S ks st kd e u p sum = (([], false, 122), st) := by
  unfold takeS; rw [if_neg (by omega), h3]
theorem takeS_old {S : List (Nat × Sr)} {ks : List Nat} {st : Sd} {kd e u sum : Nat} {p : Pl} {c : List Sm} {b : Bool} (h1 : kd = 4 ∨ kd = 5) (h2 : e = st.e) (h3 : hasS (getS S u) p = Option.some (c, b)) (h4 : bef p.w (st.come u).w = true) : takeS S ks st kd e u p sum = (([], false, 0), st) := by
  unfold takeS; rw [if_neg (by omega), h3]; simp only [h4, if_true]
theorem takeS_new {S : List (Nat × Sr)} {ks : List Nat} {st : Sd} {kd e u sum : Nat} {p : Pl} {c : List Sm} {b : Bool} (h1 : kd = 4 ∨ kd = 5) (h2 : e = st.e) (h3 : hasS (getS S u) p = Option.some (c, b)) (h4 : bef p.w (st.come u).w = false) (h5 : sumP c p.count ≠ sum) : takeS S ks st kd e u p sum = (((anewS (getS S u) u st).1, false, 0), (anewS (getS S u) u st).2) := by
  unfold takeS
  rw [if_neg (by omega), h3]
  simp only [h4, Bool.false_eq_true, if_false]
  rw [if_pos h5]
theorem bef_irr (p : Pw) : bef p p = false := by unfold bef; simp
def SdTk (base : Nat) (w : World) (p pw pt mt mc ms : Nat) (Fw : List Nat) (ep : Nat) (r : (List Ft × Bool × Nat) × Sd) (en : Ending) (w' : World) : Prop :=
  SdFr base w p pw pt mt mc ms Fw ep r.1.1 r.2 (fun v => .tuple #[v, .bool r.1.2.1, .int .u16 (r.1.2.2 : Nat)]) en w'
theorem SdTk.none {base : Nat} {w w' : World} {p pw pt mt mc ms : Nat} {Fw : List Nat} {ep er : Nat} {st : Sd} (h : SdAt base w p pw pt mt mc ms Fw st) (hW : ∃ e, w' = over w e) {r : (List Ft × Bool × Nat) × Sd} (hr : r = (([], false, er), st)) {v : Value} (hv : v = .tuple #[.slice none 0 0, .bool false, .int .u16 (er : Nat)]) : SdTk base w p pw pt mt mc ms Fw ep r (.returned v) w' := by
  subst hr hv
  exact ⟨_, [], Fw, rfl, rfl, GrsAt.nil _ _ _, (SdTo.refl h).ov hW, by simp [grsB, Value.ownBlock]⟩
theorem SdFr.to {base : Nat} {w0 w w' : World} {p pw pt mt mc ms : Nat} {Fw F1 : List Nat} {ep : Nat} {fs : List Ft} {st st1 : Sd} {out out' : Value → Value} {en : Ending} (h0 : SdTo base w0 p pw pt mt mc ms Fw st w F1) (h : SdFr base w p pw pt mt mc ms F1 ep fs st1 out en w') : ∃ v, en = .returned (out v) ∧ SdFr base w0 p pw pt mt mc ms Fw ep fs st1 out' (.returned (out' v)) w' := by
  obtain ⟨v, l, F', rfl, h1, h2, h3, h4⟩ := h
  exact ⟨v, rfl, v, l, F', rfl, h1, h2.mono h0.sz, h0.trans h3, h4⟩
theorem SdFr.at0 {base : Nat} {w0 w w' : World} {p pw pt mt mc ms : Nat} {Fw F1 : List Nat} {ep : Nat} {fs : List Ft} {st st1 : Sd} {out : Value → Value} {en : Ending} (h0 : SdTo base w0 p pw pt mt mc ms Fw st w F1) (h : SdFr base w p pw pt mt mc ms F1 ep fs st1 out en w') : SdFr base w0 p pw pt mt mc ms Fw ep fs st1 out en w' := by
  obtain ⟨v, l, F', rfl, h1, h2, h3, h4⟩ := h
  exact ⟨v, l, F', rfl, h1, h2.mono h0.sz, h0.trans h3, h4⟩
theorem SdFr.ov {base : Nat} {w0 w w' : World} {p pw pt mt mc ms : Nat} {Fw : List Nat} {ep : Nat} {fs : List Ft} {st1 : Sd} {out : Value → Value} {en : Ending} (h : SdFr base w p pw pt mt mc ms Fw ep fs st1 out en w') (hW : ∃ e, w0 = over w' e) : SdFr base w p pw pt mt mc ms Fw ep fs st1 out en w0 := by
  obtain ⟨v, l, F', rfl, h1, h2, h3, h4⟩ := h
  exact ⟨v, l, F', rfl, h1, h2.ov hW, h3.ov hW, h4⟩
end
section
open Go.RowKit
attribute [local go_sem] over_drew chg_drew

set_option maxRecDepth 100000 in
set_option maxHeartbeats 8000000 in
theorem sTake_any {base : Nat} {w : World} {p pw pt mt mc ms : Nat} {Fw : List Nat} {st : Sd} (h : SdAt base w p pw pt mt mc ms Fw st) (hb : base ≤ w.heap.size) {b0 b n sz mb : Nat} {L : List Se} (hbk : BkAt b0 w b n sz mb L) (hsep : ∀ k ∈ bkB b mb L, k ∉ sndF p pw pt mt mc ms Fw) (hL : L.length ≤ 1000)
    (hcl : ∀ u, (getS (bkOf L) u).cl.length ≤ 900) (hall : ∀ u, (getS (bkOf L) u).all.length ≤ 60) (hplc : ∀ u, IsPl (getS (bkOf L) u) (st.come u)) (hpls : ∀ u, IsPl (getS (bkOf L) u) (st.sent u)) (hnow : st.now + st.tk < 18446744073709551616)
    (kd e u sum pc pb pn : Nat) (hu : u < 4294967296) (hpc : pc < 4294967296) (hpb : pb < 4294967296) (hpn : pn < 4294967296) (ct N : Int) (cl : Bool) (fa : Option Addr) (fn fc : Nat) :
    Calls Tryz.prog 19 #[.pointer (some ⟨p, 0, none⟩), .pointer (some ⟨b, 0, none⟩), .agg #[.int .u8 (kd : Nat), .int .u32 (e : Nat), .int .u32 (u : Nat), .int .u32 (pc : Nat), .int .u32 (pb : Nat), .int .u32 (pn : Nat), .int .u32 ct, .bool cl, .int .u64 (sum : Nat), .slice fa fn fc, .int .i64 N]] w
      (SdTk base w p pw pt mt mc ms Fw st.e (takeS (bkOf L) (srtN (L.map (·.id))) st kd e u ⟨pc, pb, pn⟩ sum)) := by
  have H := hid h
  have c2 := h.blk.cell 2 rfl
  have hl := h.here.1
  by_cases hbad : (kd ≠ 4 ∧ kd ≠ 5) ∨ e ≠ st.e
  · have hr := takeS_bad (S := bkOf L) (ks := srtN (L.map (·.id))) (u := u) (sum := sum) (p := ⟨pc, pb, pn⟩) hbad
    obtain ⟨r, hr0⟩ : ∃ r, takeS (bkOf L) (srtN (L.map (·.id))) st kd e u ⟨pc, pb, pn⟩ sum = r := ⟨_, rfl⟩
    rw [hr0] at hr ⊢
    have HR := hid hr
    clear hr hr0 h hb hbk hsep hL hcl hall hplc hpls hnow
    by_cases h5 : kd = 5
    · have k5 : ((kd : Int) == 5) = true := by rw [beq_iff_eq]; omega
      have k5n : (kd == 5) = true := by rw [beq_iff_eq]; omega
      have ke : ((e : Int) != (st.e : Int)) = true := by rw [bne_iff_ne]; omega
      have ken : (e != st.e) = true := by rw [bne_iff_ne]; omega
      clear hbad h5
      go_enter Tryz.func19, Tryz.ntmps19
      go_wp2
      refine wp_region_over (by kernel_rfl) (by kernel_rfl) ?_
      repeat (go_big_quiet_step ((fail)))
      refine wpQuiet_nil ?_
      intro _ hw'
      obtain ⟨nq, rfl⟩ := hw'
      go_wp2
      go_ret3
      exact SdTk.none H.out ovA HR.out rfl
    · have k5 : ((kd : Int) == 5) = false := by rw [beq_eq_false_iff_ne]; omega
      have k5n : (kd == 5) = false := by rw [beq_eq_false_iff_ne]; omega
      by_cases h4 : kd = 4
      · have k4 : ((kd : Int) != 4) = false := by rw [bne_eq_false_iff_eq]; omega
        have k4n : (kd != 4) = false := by rw [bne_eq_false_iff_eq]; omega
        have ke : ((e : Int) != (st.e : Int)) = true := by rw [bne_iff_ne]; omega
        have ken : (e != st.e) = true := by rw [bne_iff_ne]; omega
        clear hbad h5 h4
        go_enter Tryz.func19, Tryz.ntmps19
        go_wp2
        refine wp_region_over (by kernel_rfl) (by kernel_rfl) ?_
        repeat (go_big_quiet_step ((fail)))
        refine wpQuiet_nil ?_
        intro _ hw'
        obtain ⟨nq, rfl⟩ := hw'
        go_wp2
        go_ret3
        exact SdTk.none H.out ovA HR.out rfl
      · have k4 : ((kd : Int) != 4) = true := by rw [bne_iff_ne]; omega
        have k4n : (kd != 4) = true := by rw [bne_iff_ne]; omega
        clear hbad h5 h4
        go_enter Tryz.func19, Tryz.ntmps19
        go_wp2
        refine wp_region_over (by kernel_rfl) (by kernel_rfl) ?_
        repeat (go_big_quiet_step ((fail)))
        refine wpQuiet_nil ?_
        intro _ hw'
        obtain ⟨nq, rfl⟩ := hw'
        go_wp2
        go_ret3
        exact SdTk.none H.out ovA HR.out rfl
  · have hkd : kd = 4 ∨ kd = 5 := by omega
    have hep : e = st.e := by omega
    obtain ⟨nk, hnk⟩ : ∃ b, decide (kd = 5) = b := ⟨_, rfl⟩
    have k5 : ((kd : Int) == 5) = nk := by rw [← hnk, Bool.eq_iff_iff, beq_iff_eq, decide_eq_true_eq]; omega
    have k5n : (kd == 5) = nk := by rw [← hnk, Bool.eq_iff_iff, beq_iff_eq, decide_eq_true_eq]
    have k4 : nk = false → (((kd : Int) != 4) = false ∧ (kd != 4) = false) := fun hh => by
      rw [hh] at hnk
      have := of_decide_eq_false hnk
      exact ⟨by rw [bne_eq_false_iff_eq]; omega, by rw [bne_eq_false_iff_eq]; omega⟩
    have ke : ((e : Int) != (st.e : Int)) = false := by rw [bne_eq_false_iff_eq]; omega
    have ken : (e != st.e) = false := by rw [bne_eq_false_iff_eq]; omega
    have HKD := hid hkd
    have HEP := hid hep
    have HNK := hid hnk
    have HK4 := hid k4
    have HB := hid hb
    have HL := hid hL
    have HCL := hid hcl
    have HALL := hid hall
    have HPC := hid hplc
    have HPS := hid hpls
    have HNOW := hid hnow
    have HBK := hid hbk
    have HSEP := hid hsep
    obtain ⟨r, hr0⟩ : ∃ r, takeS (bkOf L) (srtN (L.map (·.id))) st kd e u ⟨pc, pb, pn⟩ sum = r := ⟨_, rfl⟩
    rw [hr0]
    have HR := hid hr0
    clear hkd hep hnk k4 h hb hbk hsep hL hcl hall hplc hpls hnow hbad hr0
    go_enter Tryz.func19, Tryz.ntmps19
    go_upto_region 2 with (fail)
    refine gen_w ?_
    intro W1 hW1
    have O1 : Hid (∃ e, W1 = over w e) := hid (by rw [hW1]; exact ovA)
    have B1 : Hid (Blk W1 w.heap.size [.int .u8 (kd : Nat), .int .u32 (e : Nat), .int .u32 (u : Nat), .int .u32 (pc : Nat), .int .u32 (pb : Nat), .int .u32 (pn : Nat), .int .u32 ct, .bool cl, .int .u64 (sum : Nat), .slice fa fn fc, .int .i64 N] 48) := hid (by rw [hW1]; exact (by exact blA))
    have H1 := hid (H.out.ov O1.out)
    have hqs : w.heap.size ∉ sndF p pw pt mt mc ms Fw := fun hm => by have := (H.out.lt _ hm).2; omega
    have HQS := hid hqs
    have HB1 : Hid (base ≤ W1.heap.size) := hid (Nat.le_trans HB.out (sz_over O1.out))
    have HBK1 := hid (bk_ov HBK.out O1.out)
    obtain ⟨q, hq⟩ : ∃ q, w.heap.size = q := ⟨_, rfl⟩
    rw [hq] at B1 HQS ⊢
    clear hW1 hqs c2 hl hq HBK
    have c2 := H1.out.blk.cell 2 rfl
    have hl := H1.out.here.1
    have r0 := B1.out.cell 0 rfl
    have r1 := B1.out.cell 1 rfl
    have r2 := B1.out.cell 2 rfl
    have r3 := B1.out.cell 3 rfl
    have r4 := B1.out.cell 4 rfl
    have r5 := B1.out.cell 5 rfl
    have r6 := B1.out.cell 6 rfl
    have r8 := B1.out.cell 8 rfl
    have rl := B1.out.lt
    go_cut [32] from 17 to 32 (fun s32 wc => s32 = .bool false ∧ ∃ e, wc = over W1 e)
    case first =>
      cases nk with
      | true =>
        refine wp_region_over (by kernel_rfl) (by kernel_rfl) ?_
        repeat (go_big_quiet_step ((fail)))
        refine wpQuiet_nil ?_
        intro _ hw'
        obtain ⟨nq, rfl⟩ := hw'
        go_wp2_with fail
        go_meet
        case rel => exact ⟨rfl, ovA⟩
      | false =>
        have q4 := (HK4.out rfl).1
        have q4n := (HK4.out rfl).2
        refine wp_region_over (by kernel_rfl) (by kernel_rfl) ?_
        repeat (go_big_quiet_step ((fail)))
        refine wpQuiet_nil ?_
        intro _ hw'
        obtain ⟨nq, rfl⟩ := hw'
        go_wp2_with fail
        go_meet
        case rel => exact ⟨rfl, ovA⟩
    case rest =>
      obtain ⟨rfl, e2, rfl⟩ := hcut
      clear ke ken
      refine gen_w ?_
      intro W2 hW2
      have O2 : Hid (∃ e, W2 = over W1 e) := hid (by rw [hW2]; exact ovA)
      have B2 := hid (Blk.chg B1.out (Chg.of_ov O2.out []) (by simp))
      have HBK2 := hid (bk_ov HBK1.out O2.out)
      have H2 := hid (H1.out.ov O2.out)
      clear hW2 r0 r1 r2 r3 r4 r5 r6 r8 rl c2 hl
      have r2 := B2.out.cell 2 rfl
      have r3 := B2.out.cell 3 rfl
      have r4 := B2.out.cell 4 rfl
      have r5 := B2.out.cell 5 rfl
      have r8 := B2.out.cell 8 rfl
      have rl := B2.out.lt
      have c4 := H2.out.blk.cell 4 rfl
      have hl := H2.out.here.1
      obtain ⟨old, hold⟩ : ∃ o, st.come u = o := ⟨_, rfl⟩
      obtain ⟨oc, ob, on_⟩ := old
      obtain ⟨mm, hk1, hk2⟩ := H2.out.cm
      have hku := hk2 u
      rw [hold] at hku
      simp only at hku
      have hlk0 : ∀ W, (∃ e, W = over W2 e) → (Instr.lookup 96 (.map (some mc)) (.int .u32 (u : Nat)) false).run Tryz.prog W = .ok (.agg #[.int .u32 (oc : Nat), .int .u32 (ob : Nat), .int .u32 (on_ : Nat)]) W := fun W hW => by
        have k := k_lookup (t := 96) (kt := 24) (e := 42) (key_u32 (by kernel_rfl)) (by kernel_rfl) (pl_zero_run W) (MapK.ov hk1 hW) u false
        rw [hku] at k
        exact k
      have HLK := hid hlk0
      have HOLD := hid hold
      clear hk1 hk2 hku hlk0 hold
      cases hhas : hasS (getS (bkOf L) u) ⟨pc, pb, pn⟩ with
      | none =>
        have hr := takeS_no (ks := srtN (L.map (·.id))) (sum := sum) HKD.out HEP.out hhas
        rw [HR.out] at hr
        have HRR := hid hr
        have HSum := hid (fun (W : World) (hW : ∃ e, W = over W2 e) => bsum_no (bk_ov HBK2.out hW) u hpc hpb hpn hhas (HCL.out u))
        clear hr hhas
        go_wp2_with (go_at_call 18; (with_reducible refine (HSum.out _ ovA).mono ?_); rintro _ _ ⟨⟨e3, rfl⟩, rfl⟩)
        refine gen_w ?_
        intro W3 hW3
        have O3 : Hid (∃ e, W3 = over W2 e) := hid (by rw [hW3]; exact ovA)
        have hlk := fun (e : World) => HLK.out (over W3 e) (ov_tr O3.out ⟨e, rfl⟩)
        have B3 := hid (Blk.chg B2.out (Chg.of_ov O3.out []) (by simp))
        have c4' := (H2.out.ov O3.out).blk.cell 4 rfl
        have hl' := (H2.out.ov O3.out).here.1
        clear hW3 r2 r3 r4 r5 r8 rl c4 hl
        have r2 := B3.out.cell 2 rfl
        have rl := B3.out.lt
        refine M2.wp_region_mix [7, 8] 8 (by kernel_rfl) (by kernel_rfl) (by decide) ?_
        simp only [M2.td]
        with_reducible refine M2.mixL_quiet 7 (by kernel_rfl) ?_
        simp only [M2.td]
        repeat (go_big_quiet_step (fail))
        with_reducible refine wpQuiet_nil ?_
        with_reducible refine M2.mixL_eff (by decide) ?_
        go_wp2_with (fail)
        refine M2.MixQ.mk ovA ?_
        with_reducible refine M2.mixL_nil ?_
        with_reducible refine M2.mixL_eff (by decide) ?_
        go_wp2_with (fail)
        refine M2.MixQ.mk trivial ?_
        with_reducible refine M2.mixL_nil ?_
        go_wp2
        go_ret3
        exact SdTk.none H.out (ov_tr O1.out (ov_tr O2.out (ov_tr O3.out ovA))) HRR.out rfl
      | some y =>
        obtain ⟨c, cb⟩ := y
        have hh := hasS_iff.1 hhas
        have hs0 := fun (W : World) (hW : ∃ e, W = over W2 e) => sum_any (bk_ov HBK2.out hW) u hh (HCL.out u)
        obtain ⟨sm, hsm⟩ : ∃ x, sumP c pn = x := ⟨_, rfl⟩
        have hs1 : ∀ W, (∃ e, W = over W2 e) → Calls Tryz.prog 18 #[.pointer (some ⟨b, 0, none⟩), .int .u32 (u : Nat), .agg #[.int .u32 (pc : Nat), .int .u32 (pb : Nat), .int .u32 (pn : Nat)]] W (Ret W (.tuple #[.int .u64 (sm : Nat), .int .u16 0])) := by rw [← hsm]; exact hs0
        have HSum := hid hs1
        have HSM := hid hsm
        have HHAS := hid hhas
        have HH := hid hh
        clear hh hs0 hs1 hsm hhas
        go_wp2_with (go_at_call 18; (with_reducible refine (HSum.out _ ovA).mono ?_); rintro _ _ ⟨⟨e3, rfl⟩, rfl⟩)
        refine gen_w ?_
        intro W3 hW3
        have O3 : Hid (∃ e, W3 = over W2 e) := hid (by rw [hW3]; exact ovA)
        have hlk := fun (e : World) => HLK.out (over W3 e) (ov_tr O3.out ⟨e, rfl⟩)
        have B3 := hid (Blk.chg B2.out (Chg.of_ov O3.out []) (by simp))
        have c4' := (H2.out.ov O3.out).blk.cell 4 rfl
        have hl' := (H2.out.ov O3.out).here.1
        clear hW3 r2 r3 r4 r5 r8 rl c4 hl HSum
        have r2 := B3.out.cell 2 rfl
        have rl := B3.out.lt
        refine M2.wp_region_mix [7, 8] 8 (by kernel_rfl) (by kernel_rfl) (by decide) ?_
        simp only [M2.td]
        with_reducible refine M2.mixL_quiet 7 (by kernel_rfl) ?_
        simp only [M2.td]
        repeat (go_big_quiet_step (fail))
        with_reducible refine wpQuiet_nil ?_
        with_reducible refine M2.mixL_eff (by decide) ?_
        go_wp2_with (fail)
        refine M2.MixQ.mk ovA ?_
        with_reducible refine M2.mixL_nil ?_
        with_reducible refine M2.mixL_eff (by decide) ?_
        go_wp2_with (fail)
        refine M2.MixQ.mk trivial ?_
        with_reducible refine M2.mixL_nil ?_
        refine gen_w ?_
        intro W4 hW4
        have O4 : Hid (∃ e, W4 = over w e) := hid (by rw [hW4]; exact ov_tr O1.out (ov_tr O2.out (ov_tr O3.out ovA)))
        have O41 : Hid (∃ e, W4 = over W1 e) := hid (by rw [hW4]; exact ov_tr O2.out (ov_tr O3.out ovA))
        obtain ⟨q4, hq4⟩ : ∃ q, W3.heap.size = q := ⟨_, rfl⟩
        have B4 : Hid (Blk W4 q [.int .u8 (kd : Nat), .int .u32 (e : Nat), .int .u32 (u : Nat), .int .u32 (pc : Nat), .int .u32 (pb : Nat), .int .u32 (pn : Nat), .int .u32 ct, .bool cl, .int .u64 (sum : Nat), .slice fa fn fc, .int .i64 N] 48) := hid (Blk.chg B1.out (Chg.of_ov O41.out []) (by simp))
        have D4 : Hid (Blk W4 q4 [.int .u32 (oc : Nat), .int .u32 (ob : Nat), .int .u32 (on_ : Nat)] 42) := hid (by rw [hW4, ← hq4]; exact (by exact blA))
        rw [hq4]
        have H4 := hid (H.out.ov O4.out)
        have HBK4 := hid (bk_ov HBK1.out O41.out)
        clear hW4 hq4 B1 B2 B3 r2 rl c4' hl' hlk HLK H1 H2 HBK1 HBK2 O2 O3
        have r2 := B4.out.cell 2 rfl
        have r3 := B4.out.cell 3 rfl
        have r4 := B4.out.cell 4 rfl
        have r5 := B4.out.cell 5 rfl
        have r8 := B4.out.cell 8 rfl
        have rl := B4.out.lt
        have d0 := D4.out.cell 0 rfl
        have d1 := D4.out.cell 1 rfl
        have d2 := D4.out.cell 2 rfl
        have dl := D4.out.lt
        obtain ⟨bb, hbb⟩ : ∃ x, bef (⟨pc, pb, pn⟩ : Pl).w (⟨oc, ob, on_⟩ : Pl).w = x := ⟨_, rfl⟩
        obtain ⟨mv, hmv⟩ : ∃ x, bef (⟨oc, ob, on_⟩ : Pl).w (⟨pc, pb, pn⟩ : Pl).w = x := ⟨_, rfl⟩
        have HBef1 : Hid (∀ W, Calls Tryz.prog 52 #[.agg #[.int .u32 (pc : Nat), .int .u32 (pb : Nat), .int .u32 (pn : Nat)], .agg #[.int .u32 (oc : Nat), .int .u32 (ob : Nat), .int .u32 (on_ : Nat)]] W (Ret W (.bool bb))) := hid (by rw [← hbb]; exact fun W => before_any (⟨pc, pb, pn⟩ : Pl).w (⟨oc, ob, on_⟩ : Pl).w W)
        have HBef2 : Hid (∀ W, Calls Tryz.prog 52 #[.agg #[.int .u32 (oc : Nat), .int .u32 (ob : Nat), .int .u32 (on_ : Nat)], .agg #[.int .u32 (pc : Nat), .int .u32 (pb : Nat), .int .u32 (pn : Nat)]] W (Ret W (.bool mv))) := hid (by rw [← hmv]; exact fun W => before_any (⟨oc, ob, on_⟩ : Pl).w (⟨pc, pb, pn⟩ : Pl).w W)
        have HBB : Hid (bef (⟨pc, pb, pn⟩ : Pl).w (st.come u).w = bb) := hid (by rw [HOLD.out]; exact hbb)
        have HMV : Hid (bef (st.come u).w (⟨pc, pb, pn⟩ : Pl).w = mv) := hid (by rw [HOLD.out]; exact hmv)
        clear hbb hmv
        cases bb with
        | true =>
          have hr := takeS_old (ks := srtN (L.map (·.id))) (sum := sum) HKD.out HEP.out HHAS.out HBB.out
          rw [HR.out] at hr
          have HRR := hid hr
          clear hr
          go_wp2_with (go_at_call 52; (with_reducible refine (HBef1.out _).mono ?_); rintro _ _ ⟨⟨e4, rfl⟩, rfl⟩)
          go_ret3
          exact SdTk.none H.out (ov_tr O4.out ovA) HRR.out rfl
        | false =>
          by_cases hss : sm = sum
          · subst hss
            have hr := takeS_go (ks := srtN (L.map (·.id))) HKD.out HEP.out HHAS.out HBB.out (show sumP c (⟨pc, pb, pn⟩ : Pl).count = sm by show sumP c pn = sm; exact HSM.out)
            rw [HR.out, HMV.out, HNK.out] at hr
            have HRR := hid hr
            have s1 : ((sm : Int) != (sm : Int)) = false := by rw [bne_eq_false_iff_eq]
            have s2 : (sm != sm) = false := by rw [bne_eq_false_iff_eq]
            clear hr
            go_upto_region 13 with (first | (go_at_call 52; (with_reducible refine (HBef1.out _).mono ?_); rintro _ _ ⟨⟨e4, rfl⟩, rfl⟩) | (go_at_call 52; (with_reducible refine (HBef2.out _).mono ?_); rintro _ _ ⟨⟨e5, rfl⟩, rfl⟩))
            refine gen_w ?_
            intro W5 hW5
            have O5 : Hid (∃ e, W5 = over w e) := hid (by rw [hW5]; exact ov_tr O4.out ovA)
            have O54 : Hid (∃ e, W5 = over W4 e) := hid (by rw [hW5]; exact ovA)
            have B5 := hid (Blk.chg B4.out (Chg.of_ov O54.out []) (by simp))
            have H5 := hid (H.out.ov O5.out)
            have HBK5 := hid (bk_ov HBK4.out O54.out)
            clear hW5 r2 r3 r4 r5 r8 rl d0 d1 d2 dl s1 s2 D4 B4 H4 HBK4 O54 O4 O41 HBef1 HBef2
            have r2 := B5.out.cell 2 rfl
            have r3 := B5.out.cell 3 rfl
            have r4 := B5.out.cell 4 rfl
            have r5 := B5.out.cell 5 rfl
            have rl := B5.out.lt
            have c4 := H5.out.blk.cell 4 rfl
            have hl := H5.out.here.1
            obtain ⟨mm, hk1, hk2⟩ := H5.out.cm
            have HM := hid hk1
            have HM2 := hid hk2
            clear hk1 hk2
            refine M2.wp_region_mix [8] 8 (by kernel_rfl) (by kernel_rfl) (by decide) ?_
            simp only [M2.td]
            with_reducible refine M2.mixL_quiet 8 (by kernel_rfl) ?_
            simp only [M2.td]
            repeat (go_big_quiet_step (fail))
            with_reducible refine wpQuiet_nil ?_
            with_reducible refine M2.mixL_nil ?_
            with_reducible refine M2.mixL_eff (by decide) ?_
            go_wp2_with ((at_mapUpdate; refine wpList_kupdate rfl (.tmp 75) (.tmp 77) (.tmp 79) 96 rfl 24 42 (key_u32 (by kernel_rfl)) (by kernel_rfl) mc mm u (.agg #[.int .u32 (pc : Nat), .int .u32 (pb : Nat), .int .u32 (pn : Nat)]) rfl rfl rfl (MapK.chg (F := []) HM.out (by exact chA) (by simp)) ?_; intro m3 hm3))
            refine M2.MixQ.mk trivial ?_
            with_reducible refine M2.mixL_nil ?_
            rw [chg_drew] at hm3
            obtain ⟨stC, hstC⟩ : ∃ x : Sd, ({ st with come := fset st.come u ⟨pc, pb, pn⟩ } : Sd) = x := ⟨_, rfl⟩
            have t13 := SdTo.cm (SdTo.refl H5.out) (chg_chg [mc] W5 m3) hm3 (HM2.out.put u ⟨pc, pb, pn⟩)
            rw [hstC] at t13
            have T13 := hid t13
            have HPLs : Hid (∀ v, IsPl (getS (bkOf L) v) (stC.sent v)) := hid (by rw [← hstC]; exact HPS.out)
            have HC0 : Hid (stC.e = st.e ∧ stC.now = st.now ∧ stC.tk = st.tk ∧ stC.come u = ⟨pc, pb, pn⟩) := hid (by rw [← hstC]; exact ⟨rfl, rfl, rfl, fset_get _ _ _⟩)
            have HSC := hid hstC
            clear t13 hstC hm3 HM HM2
            refine gen_w ?_
            intro W6 hW6
            rw [← hW6] at T13
            clear hW6 r2 r3 r4 r5 rl c4 hl
            have hB6 := B5.out.chg T13.out.ch HQS.out
            have r2 := hB6.cell 2 rfl
            have r3 := hB6.cell 3 rfl
            have r4 := hB6.cell 4 rfl
            have r5 := hB6.cell 5 rfl
            have rl := hB6.lt
            have c0 := T13.out.at_.blk.cell 0 rfl
            have hl := T13.out.at_.here.1
            have HAck := hid (sd_ack T13.out.at_ u ⟨pc, pb, pn⟩)
            clear hB6
            go_upto_region 14 with (fail)
            refine M2.wp_region_mix [8] 8 (by kernel_rfl) (by kernel_rfl) (by decide) ?_
            simp only [M2.td]
            with_reducible refine M2.mixL_quiet 8 (by kernel_rfl) ?_
            simp only [M2.td]
            repeat (go_big_quiet_step (fail))
            with_reducible refine wpQuiet_nil ?_
            with_reducible refine M2.mixL_nil ?_
            with_reducible refine M2.mixL_eff (by decide) ?_
            go_wp2_with ((go_at_call 54; (with_reducible refine (HAck.out _ ovA).mono ?_); rintro _ w7 ⟨⟨v7, rfl⟩, F7, hto, hc7⟩; have T14 := hid (T13.out.trans hto); clear hto hc7 HAck T13 r2 r3 r4 r5 rl c0 hl))
            refine M2.MixQ.mk trivial ?_
            with_reducible refine M2.mixL_nil ?_
            obtain ⟨sA, hsA⟩ : ∃ x : Sd, ({ stC with ws := outW (ackQ (u : Nat) (⟨pc, pb, pn⟩ : Pl).w) stC.ws } : Sd) = x := ⟨_, rfl⟩
            rw [hsA] at T14
            have HSA : Hid (tk1 st u ⟨pc, pb, pn⟩ = sA) := hid (by rw [← hsA, ← HSC.out]; rfl)
            have HPLa : Hid (∀ v, IsPl (getS (bkOf L) v) (sA.sent v)) := hid (by rw [← hsA]; exact HPLs.out)
            have HCa : Hid (sA.e = st.e ∧ sA.now = st.now ∧ sA.tk = st.tk ∧ sA.come u = ⟨pc, pb, pn⟩) := hid (by rw [← hsA]; exact HC0.out)
            clear hsA HPLs HC0 HSC
            have hpp : IsPl (getS (bkOf L) u) ⟨pc, pb, pn⟩ := ⟨c, cb, HH.out⟩
            have HPP := hid hpp
            clear hpp
            obtain ⟨sB, hsB⟩ : ∃ x : Sd, (if nk = true then sA.back u else sA) = x := ⟨_, rfl⟩
            have HSB := hid hsB
            have HPLb : Hid (∀ v, IsPl (getS (bkOf L) v) (sB.sent v)) := hid (by
              rw [← hsB]
              intro v
              split
              · show IsPl _ (fset sA.sent u (sA.come u) v)
                unfold fset
                split
                · rename_i hx; subst hx; rw [HCa.out.2.2.2]; exact HPP.out
                · exact HPLa.out v
              · exact HPLa.out v)
            have HCb : Hid (sB.e = st.e ∧ sB.now = st.now ∧ sB.tk = st.tk ∧ sB.come u = ⟨pc, pb, pn⟩) := hid (by
              rw [← hsB]
              split
              · exact HCa.out
              · exact HCa.out)
            clear hsB
            go_upto_if 89 with (fail)
            go_cut [] from 90 to 93 (fun wc => ∃ F, SdTo base W5 p pw pt mt mc ms Fw sB wc F)
            case first =>
              cases nk with
              | true =>
                have HBa := hid (fun W (hW : ∃ e, W = over w7 e) => sBack_any (T14.out.at_.ov hW) u)
                have hB7 := B5.out.chg T14.out.ch HQS.out
                have r2 := hB7.cell 2 rfl
                have rl := hB7.lt
                clear hB7
                go_wp2_with (go_at_call 55; (with_reducible refine (HBa.out _ ovA).mono ?_); rintro _ w8 ⟨rfl, F8, hto⟩; have T16 := hid (T14.out.trans (SdTo.ov0 (by exact ovA) hto)); clear hto HBa)
                go_meet
                case rel => exact ⟨F8, by rw [← HSB.out]; first | (rw [if_pos trivial]; exact T16.out) | (rw [if_pos rfl]; exact T16.out)⟩
              | false =>
                go_wp2_with fail
                go_meet
                case rel => exact ⟨F7, by rw [← HSB.out, if_neg (by simp)]; exact T14.out⟩
            case rest =>
              obtain ⟨FB, hTB⟩ := hcut
              have TB := hid hTB
              clear hTB T14
              have hB7 := B5.out.chg TB.out.ch HQS.out
              have r2 := hB7.cell 2 rfl
              have r3 := hB7.cell 3 rfl
              have r4 := hB7.cell 4 rfl
              have r5 := hB7.cell 5 rfl
              have rl := hB7.lt
              have c5 := TB.out.at_.blk.cell 5 rfl
              have hl := TB.out.at_.here.1
              obtain ⟨⟨sc, sb, sn⟩, hsu⟩ : ∃ x, sB.sent u = x := ⟨_, rfl⟩
              obtain ⟨mm, hk1, hk2⟩ := TB.out.at_.sm
              have hku := hk2 u
              rw [hsu] at hku
              simp only at hku
              have hlk : ∀ e, (Instr.lookup 96 (.map (some ms)) (.int .u32 (u : Nat)) false).run Tryz.prog (over wc e) = .ok (.agg #[.int .u32 (sc : Nat), .int .u32 (sb : Nat), .int .u32 (sn : Nat)]) (over wc e) := fun e => by
                have k := k_lookup (t := 96) (kt := 24) (e := 42) (key_u32 (by kernel_rfl)) (by kernel_rfl) (pl_zero_run (over wc e)) (MapK.ov hk1 ⟨e, rfl⟩) u false
                rw [hku] at k
                exact k
              obtain ⟨b17, hb17⟩ : ∃ x, bef (⟨sc, sb, sn⟩ : Pl).w (⟨pc, pb, pn⟩ : Pl).w = x := ⟨_, rfl⟩
              have HBef3 : Hid (∀ W, Calls Tryz.prog 52 #[.agg #[.int .u32 (sc : Nat), .int .u32 (sb : Nat), .int .u32 (sn : Nat)], .agg #[.int .u32 (pc : Nat), .int .u32 (pb : Nat), .int .u32 (pn : Nat)]] W (Ret W (.bool b17))) := hid (by rw [← hb17]; exact fun W => before_any (⟨sc, sb, sn⟩ : Pl).w (⟨pc, pb, pn⟩ : Pl).w W)
              have HB17 : Hid (bef (sB.sent u).w (⟨pc, pb, pn⟩ : Pl).w = b17) := hid (by rw [hsu]; exact hb17)
              have HM := hid hk1
              have HM2 := hid hk2
              clear hb17 hku hk1 hk2 hsu hB7
              go_upto_region 17 with (fail)
              refine M2.wp_region_mix [9] 9 (by kernel_rfl) (by kernel_rfl) (by decide) ?_
              simp only [M2.td]
              with_reducible refine M2.mixL_quiet 9 (by kernel_rfl) ?_
              simp only [M2.td]
              repeat (go_big_quiet_step (fail))
              with_reducible refine wpQuiet_nil ?_
              with_reducible refine M2.mixL_nil ?_
              with_reducible refine M2.mixL_eff (by decide) ?_
              go_wp2_with ((go_at_call 52; (with_reducible refine (HBef3.out _).mono ?_); rintro _ _ ⟨⟨e6, rfl⟩, rfl⟩))
              refine M2.MixQ.mk trivial ?_
              with_reducible refine M2.mixL_nil ?_
              clear hlk HBef3
              obtain ⟨sD, hsD⟩ : ∃ x : Sd, tk3 sB u ⟨pc, pb, pn⟩ = x := ⟨_, rfl⟩
              have HSD := hid hsD
              have HPLd : Hid (∀ v, IsPl (getS (bkOf L) v) (sD.sent v)) := hid (by
                rw [← hsD]
                intro v
                unfold tk3
                split
                · show IsPl _ (fset sB.sent u ⟨pc, pb, pn⟩ v)
                  unfold fset
                  split
                  · rename_i hx; subst hx; exact HPP.out
                  · exact HPLb.out v
                · exact HPLb.out v)
              have HCd : Hid (sD.e = st.e ∧ sD.now = st.now ∧ sD.tk = st.tk ∧ sD.come u = ⟨pc, pb, pn⟩) := hid (by
                rw [← hsD]
                unfold tk3
                split
                · exact HCb.out
                · exact HCb.out)
              clear hsD
              go_upto_if 103 with (fail)
              refine gen_w ?_
              intro W9 hW9
              have T17 := hid (show SdTo base W5 p pw pt mt mc ms Fw sB W9 FB by rw [hW9]; exact TB.out.ov ovA)
              have hc9 : MapK W9 ms e32 mm := by rw [hW9]; exact MapK.ov HM.out ovA
              have HM9 := hid hc9
              clear hW9 hc9 r2 r3 r4 r5 rl c5 hl TB HM
              go_cut [] from 104 to 111 (fun wc => ∃ F, SdTo base W5 p pw pt mt mc ms Fw sD wc F)
              case first =>
                cases b17 with
                | true =>
                  have hB7 := B5.out.chg T17.out.ch HQS.out
                  have r2 := hB7.cell 2 rfl
                  have r3 := hB7.cell 3 rfl
                  have r4 := hB7.cell 4 rfl
                  have r5 := hB7.cell 5 rfl
                  have rl := hB7.lt
                  have c5 := T17.out.at_.blk.cell 5 rfl
                  have hl := T17.out.at_.here.1
                  clear hB7
                  go_wp2_with fail
                  refine M2.wp_region_mix [8] 8 (by kernel_rfl) (by kernel_rfl) (by decide) ?_
                  simp only [M2.td]
                  with_reducible refine M2.mixL_quiet 8 (by kernel_rfl) ?_
                  simp only [M2.td]
                  repeat (go_big_quiet_step (fail))
                  with_reducible refine wpQuiet_nil ?_
                  with_reducible refine M2.mixL_nil ?_
                  with_reducible refine M2.mixL_eff (by decide) ?_
                  go_wp2_with ((at_mapUpdate; refine wpList_kupdate rfl (.tmp 107) (.tmp 109) (.tmp 111) 96 rfl 24 42 (key_u32 (by kernel_rfl)) (by kernel_rfl) ms mm u (.agg #[.int .u32 (pc : Nat), .int .u32 (pb : Nat), .int .u32 (pn : Nat)]) rfl rfl rfl (MapK.chg (F := []) HM9.out (by exact chA) (by simp)) ?_; intro m3 hm3))
                  refine M2.MixQ.mk trivial ?_
                  with_reducible refine M2.mixL_nil ?_
                  go_wp2_with fail
                  go_meet
                  case rel =>
                    rw [chg_drew] at hm3
                    have k := SdTo.sm T17.out (chg_chg [ms] W9 m3) hm3 (HM2.out.put u ⟨pc, pb, pn⟩)
                    refine ⟨FB, ?_⟩
                    rw [← HSD.out]
                    unfold tk3
                    rw [if_pos HB17.out]
                    exact k
                | false =>
                  go_wp2_with fail
                  go_meet
                  case rel => exact ⟨FB, by rw [← HSD.out]; unfold tk3; rw [if_neg (by rw [HB17.out]; simp)]; exact T17.out⟩
              case rest =>
                obtain ⟨FD, hTD⟩ := hcut
                have TD := hid hTD
                clear hTD T17 HM2 HM9
                obtain ⟨sE, hsE⟩ : ∃ x : Sd, tk4 (getS (bkOf L) u) (mv || nk) sD u ⟨pc, pb, pn⟩ = x := ⟨_, rfl⟩
                have hE : tkS (getS (bkOf L) u) nk st u ⟨pc, pb, pn⟩ = sE := by
                  unfold tkS
                  rw [HMV.out, HSA.out, HSB.out, HSD.out]
                  exact hsE
                have hrr := HRR.out
                rw [hE] at hrr
                have HRE := hid hrr
                have HSE := hid hsE
                have HPLe : Hid (∀ v, IsPl (getS (bkOf L) v) (sE.sent v)) := hid (by
                  rw [← hsE]
                  unfold tk4
                  split
                  · exact HPLd.out
                  · split
                    · exact HPLd.out
                    · exact HPLd.out)
                have HCe : Hid (sE.e = st.e ∧ sE.now = st.now ∧ sE.tk = st.tk) := hid (by
                  rw [← hsE]
                  unfold tk4
                  split
                  · exact ⟨HCd.out.1, HCd.out.2.1, HCd.out.2.2.1⟩
                  · split
                    · exact ⟨HCd.out.1, HCd.out.2.1, HCd.out.2.2.1⟩
                    · exact ⟨HCd.out.1, HCd.out.2.1, HCd.out.2.2.1⟩)
                have HBKx := hid (fun (wr : World) (hc : Chg (sndF p pw pt mt mc ms Fw) W5 wr) => HBK5.out.cg hc HSEP.out)
                clear hsE hE hrr HRR HSA HSB HSD HPLa HPLb HPLd HCa HCb HBK5
                go_upto_block 1 with (fail)
                go_cut [] from 112 to 142 (fun wc => ∃ F, SdTo base W5 p pw pt mt mc ms Fw sE wc F)
                case first =>
                  have hB7 := B5.out.chg TD.out.ch HQS.out
                  have r2 := hB7.cell 2 rfl
                  have rl := hB7.lt
                  have c1 := TD.out.at_.blk.cell 1 rfl
                  have c3 := TD.out.at_.blk.cell 3 rfl
                  have hl := TD.out.at_.here.1
                  obtain ⟨dn, hdn⟩ : ∃ x, decide (sD.come u = (getS (bkOf L) u).fin) = x := ⟨_, rfl⟩
                  have hdone := fun (W : World) (hW : ∃ e, W = over wc e) => sDone_any (TD.out.at_.ov hW) (bk_ov (HBKx.out _ TD.out.ch) hW) (u := u) rfl (HCL.out u)
                  rw [hdn] at hdone
                  have HDone := hid hdone
                  have HDN : Hid (decide ((⟨pc, pb, pn⟩ : Pl) = (getS (bkOf L) u).fin) = dn) := hid (by rw [← HCd.out.2.2.2]; exact hdn)
                  have HSt := hid (sd_stop TD.out.at_ u)
                  have HAg := hid (sd_again TD.out.at_ u (by rw [HCd.out.2.1, HCd.out.2.2.1]; exact HNOW.out))
                  have HY : Hid (dn = true → { sD with ts := tdel sD.ts u } = tk4 (getS (bkOf L) u) true sD u ⟨pc, pb, pn⟩) := hid (fun hd => by
                    unfold tk4
                    rw [if_neg (by simp), if_pos (by rw [hd] at HDN; exact of_decide_eq_true HDN.out)])
                  have HZ : Hid (dn = false → { sD with ts := tput sD.ts ⟨u, 0, sD.now + sD.tk⟩ } = tk4 (getS (bkOf L) u) true sD u ⟨pc, pb, pn⟩) := hid (fun hd => by
                    unfold tk4
                    rw [if_neg (by simp), if_neg (by rw [hd] at HDN; exact of_decide_eq_false HDN.out)])
                  clear hB7 hdn hdone
                  cases mv with
                  | true =>
                    rw [Bool.true_or] at HSE
                    cases dn with
                    | true =>
                      have HYY := hid (HY.out rfl)
                      clear HY HZ
                      go_wp2_with (go_at_call 56; (with_reducible refine (HDone.out _ ovA).mono ?_); rintro _ _ ⟨⟨e8, rfl⟩, rfl⟩)
                      refine M2.wp_region_mix [6] 6 (by kernel_rfl) (by kernel_rfl) (by decide) ?_
                      simp only [M2.td]
                      with_reducible refine M2.mixL_quiet 6 (by kernel_rfl) ?_
                      simp only [M2.td]
                      repeat (go_big_quiet_step (fail))
                      with_reducible refine wpQuiet_nil ?_
                      with_reducible refine M2.mixL_nil ?_
                      with_reducible refine M2.mixL_eff (by decide) ?_
                      go_wp2_with ((go_at_call 57; (with_reducible refine (HSt.out _ ovA).mono ?_); rintro _ w11 ⟨⟨v11, rfl⟩, hto, hc11⟩; have T11 := hid (TD.out.trans hto); clear hto hc11))
                      refine M2.MixQ.mk trivial ?_
                      with_reducible refine M2.mixL_nil ?_
                      go_wp2_with fail
                      go_meet
                      case rel => exact ⟨FD, by rw [← HSE.out, ← HYY.out]; exact T11.out⟩
                    | false =>
                      have HZZ := hid (HZ.out rfl)
                      clear HY HZ
                      go_wp2_with (go_at_call 56; (with_reducible refine (HDone.out _ ovA).mono ?_); rintro _ _ ⟨⟨e8, rfl⟩, rfl⟩)
                      refine M2.wp_region_mix [10] 10 (by kernel_rfl) (by kernel_rfl) (by decide) ?_
                      simp only [M2.td]
                      with_reducible refine M2.mixL_quiet 10 (by kernel_rfl) ?_
                      simp only [M2.td]
                      repeat (go_big_quiet_step (fail))
                      with_reducible refine wpQuiet_nil ?_
                      with_reducible refine M2.mixL_nil ?_
                      with_reducible refine M2.mixL_eff (by decide) ?_
                      go_wp2_with ((go_at_call 58; (with_reducible refine (HAg.out _ ovA).mono ?_); rintro _ w11 ⟨⟨v11, rfl⟩, hto, hc11⟩; have T11 := hid (TD.out.trans hto); clear hto hc11))
                      refine M2.MixQ.mk trivial ?_
                      with_reducible refine M2.mixL_nil ?_
                      go_wp2_with fail
                      go_meet
                      case rel => exact ⟨FD, by rw [← HSE.out, ← HZZ.out]; exact T11.out⟩
                  | false =>
                    cases nk with
                    | true =>
                      rw [Bool.or_true] at HSE
                      cases dn with
                      | true =>
                        have HYY := hid (HY.out rfl)
                        clear HY HZ
                        go_wp2_with (go_at_call 56; (with_reducible refine (HDone.out _ ovA).mono ?_); rintro _ _ ⟨⟨e8, rfl⟩, rfl⟩)
                        refine M2.wp_region_mix [6] 6 (by kernel_rfl) (by kernel_rfl) (by decide) ?_
                        simp only [M2.td]
                        with_reducible refine M2.mixL_quiet 6 (by kernel_rfl) ?_
                        simp only [M2.td]
                        repeat (go_big_quiet_step (fail))
                        with_reducible refine wpQuiet_nil ?_
                        with_reducible refine M2.mixL_nil ?_
                        with_reducible refine M2.mixL_eff (by decide) ?_
                        go_wp2_with ((go_at_call 57; (with_reducible refine (HSt.out _ ovA).mono ?_); rintro _ w11 ⟨⟨v11, rfl⟩, hto, hc11⟩; have T11 := hid (TD.out.trans hto); clear hto hc11))
                        refine M2.MixQ.mk trivial ?_
                        with_reducible refine M2.mixL_nil ?_
                        go_wp2_with fail
                        go_meet
                        case rel => exact ⟨FD, by rw [← HSE.out, ← HYY.out]; exact T11.out⟩
                      | false =>
                        have HZZ := hid (HZ.out rfl)
                        clear HY HZ
                        go_wp2_with (go_at_call 56; (with_reducible refine (HDone.out _ ovA).mono ?_); rintro _ _ ⟨⟨e8, rfl⟩, rfl⟩)
                        refine M2.wp_region_mix [10] 10 (by kernel_rfl) (by kernel_rfl) (by decide) ?_
                        simp only [M2.td]
                        with_reducible refine M2.mixL_quiet 10 (by kernel_rfl) ?_
                        simp only [M2.td]
                        repeat (go_big_quiet_step (fail))
                        with_reducible refine wpQuiet_nil ?_
                        with_reducible refine M2.mixL_nil ?_
                        with_reducible refine M2.mixL_eff (by decide) ?_
                        go_wp2_with ((go_at_call 58; (with_reducible refine (HAg.out _ ovA).mono ?_); rintro _ w11 ⟨⟨v11, rfl⟩, hto, hc11⟩; have T11 := hid (TD.out.trans hto); clear hto hc11))
                        refine M2.MixQ.mk trivial ?_
                        with_reducible refine M2.mixL_nil ?_
                        go_wp2_with fail
                        go_meet
                        case rel => exact ⟨FD, by rw [← HSE.out, ← HZZ.out]; exact T11.out⟩
                    | false =>
                      go_wp2_with fail
                      go_meet
                      case rel => exact ⟨FD, by rw [← HSE.out]; exact TD.out⟩
                case rest =>
                  obtain ⟨FE, hTE⟩ := hcut
                  have TE := hid hTE
                  have hrec := HRE.out
                  clear hTE TD
                  have HPu : Hid (∀ W, (∃ e, W = over wc e) → Calls Tryz.prog 15 #[.pointer (some ⟨p, 0, none⟩), .pointer (some ⟨b, 0, none⟩)] W (fun en w' => ∃ v, en = .returned v ∧ SdFr base W5 p pw pt mt mc ms Fw st.e (pump (bkOf L) (srtN (L.map (·.id))) sE).1 (pump (bkOf L) (srtN (L.map (·.id))) sE).2 (fun v => .tuple #[v, .bool mv, .int .u16 0]) (.returned (.tuple #[v, .bool mv, .int .u16 0])) w')) := hid (fun W hW => by
                    have k := sPump_any (TE.out.at_.ov hW) (Nat.le_trans (Nat.le_trans HB.out (sz_over O5.out)) (Nat.le_trans TE.out.sz (sz_over hW))) (bk_ov (HBKx.out _ TE.out.ch) hW) (fun k hk => TE.out.apart (by have := (HBKx.out _ (Chg.refl _ _)).blt k hk; omega) (HSEP.out k hk)) HL.out HCL.out HALL.out (fun v _ => HPLe.out v) (by rw [HCe.out.2.1, HCe.out.2.2]; exact HNOW.out)
                    rw [HCe.out.1] at k
                    exact k.mono (fun en w' hf => SdFr.to (out' := fun v => .tuple #[v, .bool mv, .int .u16 0]) (TE.out.ov hW) hf))
                  clear hrec
                  go_wp2_with (go_at_call 15; (with_reducible refine (HPu.out _ ovA).mono ?_); rintro _ w9 ⟨v9, rfl, hf9⟩; have HF9 := hid hf9; clear hf9)
                  go_ret3
                  rw [HRE.out]
                  exact SdFr.at0 ((SdTo.refl H.out).ov O5.out) (SdFr.ov HF9.out ovA)
          · have hr := takeS_new (ks := srtN (L.map (·.id))) HKD.out HEP.out HHAS.out HBB.out (show sumP c (⟨pc, pb, pn⟩ : Pl).count ≠ sum by show sumP c pn ≠ sum; rw [HSM.out]; exact hss)
            rw [HR.out] at hr
            have HRR := hid hr
            have s1 : ((sm : Int) != (sum : Int)) = true := by rw [bne_iff_ne]; omega
            have s2 : (sm != sum) = true := by rw [bne_iff_ne]; exact hss
            have HAn : Hid (∀ W, (∃ e, W = over W4 e) → Calls Tryz.prog 53 #[.pointer (some ⟨p, 0, none⟩), .pointer (some ⟨b, 0, none⟩), .int .u32 (u : Nat)] W (fun en w' => ∃ v, en = .returned v ∧ SdFr base w p pw pt mt mc ms Fw st.e (anewS (getS (bkOf L) u) u st).1 (anewS (getS (bkOf L) u) u st).2 (fun v => .tuple #[v, .bool false, .int .u16 0]) (.returned (.tuple #[v, .bool false, .int .u16 0])) w')) := hid (fun W hW => (sAnew_any (H4.out.ov hW) (Nat.le_trans HB.out (sz_over (ov_tr O4.out hW))) (bk_ov HBK4.out hW) HSEP.out hu rfl (HCL.out u) (HPC.out u) HNOW.out).mono (fun en w' hf => SdFr.to (out' := fun v => .tuple #[v, .bool false, .int .u16 0]) ((SdTo.refl H.out).ov (ov_tr O4.out hW)) hf))
            clear hr hss
            go_wp2_with (first | (go_at_call 52; (with_reducible refine (HBef1.out _).mono ?_); rintro _ _ ⟨⟨e4, rfl⟩, rfl⟩) | (go_at_call 53; (with_reducible refine (HAn.out _ ovA).mono ?_); rintro _ w5 ⟨v5, rfl, hf5⟩; have HF5 := hid hf5; clear hf5))
            go_ret3
            rw [HRR.out]
            exact SdFr.ov HF5.out ovA
end
end Go.Proofs.YtnihngljmmbenaaGreatDoor
