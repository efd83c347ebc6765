/- Walks: BookSums. -/
import Derived.Test.YtlmfcghlbingjaaDoorHE
import Derived.Test.YtlmfcghlbingjaaDoorLayW
import Derived.Test.YtlmfcghlbingjaaDoorRf5
namespace Go.Proofs.YtlmfcghlbingjaaDoor
set_option linter.unusedVariables false
set_option linter.unusedSimpArgs false
open Go.RowKit
attribute [local go_sem] over_drew chg_drew
attribute [local go_sem high] place_eql place_neq

theorem lsz_ok (size : Int) : 1 ≤ lsz size ∧ lsz size ≤ 24 := by unfold lsz; omega
/-- What is known of a book that was laid. -/
structure Laid (W : World) (base b mb sz : Nat) (L : List Se) (S : List (Nat × Sr)) (rs : List Rs) : Prop where
  bk : BkAt base W b 64 sz mb L
  eq : bkOf L = S
  len : rs.length = S.length
  at_ : ∀ k, (h : k < rs.length) → ∃ h2 : k < S.length, rs[k].id = S[k].1 ∧ rs[k].l = S[k].2.all
  I : LayI sz 60 S
theorem LayI.mono {sz k n : Nat} {S : List (Nat × Sr)} (h : LayI sz k S) (hk : k ≤ n) : LayI sz n S := ⟨by have := h.len; omega, fun x hx => ⟨by have := (h.all x hx).1; omega, (h.all x hx).2⟩, h.full, h.ids⟩
theorem laid_of {W : World} {base b mb sz : Nat} {L : List Se} {ops : List (Nat × Sm)} {rs : List Rs} (hsz : 1 ≤ sz) (hl : ops.length ≤ 60) (h : BkAt base W b 64 sz mb L) (he : bkOf L = layS sz ops) (hm : rs.map (fun r => (r.id, r.l)) = allS (layS sz ops)) : Laid W base b mb sz L (layS sz ops) rs := by
  have hlen : rs.length = (layS sz ops).length := by have := congrArg List.length hm; simpa [allS] using this
  have hI := layI hsz ops ops.length (Nat.le_refl _)
  rw [List.take_length] at hI
  refine ⟨h, he, hlen, fun j hj => ?_, hI.mono hl⟩
  have h2 : j < (layS sz ops).length := by omega
  have h3 := congrArg (fun l => l[j]?) hm
  simp [allS, List.getElem?_eq_getElem hj, List.getElem?_eq_getElem h2] at h3
  exact ⟨h2, h3.1, h3.2⟩
/-- The k-th series. -/
structure LaidK (L : List Se) (S : List (Nat × Sr)) (rs : List Rs) (k id : Nat) (s : Sr) : Prop where
  nid : ∀ h : k < rs.length, rs[k].id = id
  l : ∀ h : k < rs.length, rs[k].l = s.all
  get : getS (bkOf L) id = s
  ok : SrOk s
  all : s.all.length ≤ 60
  cl : s.cl.length ≤ 60
theorem Laid.k {W : World} {base b mb sz : Nat} {L : List Se} {S : List (Nat × Sr)} {rs : List Rs} (h : Laid W base b mb sz L S rs) {k : Nat} (hk : k < rs.length) : ∃ id s, LaidK L S rs k id s := by
  obtain ⟨h2, h3, h4⟩ := h.at_ k hk
  have hg : getS (bkOf L) S[k].1 = S[k].2 := by rw [h.eq]; exact getS_at h.I.ids h2
  have hok : SrOk S[k].2 := by rw [← hg]; exact getS_ok h.bk _
  have ha := (h.I.all _ (List.getElem_mem h2)).1
  exact ⟨S[k].1, S[k].2, fun _ => h3, fun _ => h4, hg, hok, ha, cl_le hok ha⟩
theorem ret_eq {w w' : World} {v : Value} {en : Ending} (h : Ret w v en w') : en = .returned v ∧ ∃ e, w' = over w e := ⟨h.2, h.1⟩
set_option maxRecDepth 100000 in
set_option maxHeartbeats 4000000 in
theorem bookSums_any (size : Int) (hz : -9223372036854775808 ≤ size ∧ size ≤ 9223372036854775807) (xs : List Opr) (hx : ∀ o ∈ xs, o.wf) (a : Option Addr) (cap : Nat) (most : Int) (hm : 0 ≤ most ∧ most ≤ 65535) (w : World) (hT : TabW w) (hs : SlO w a cap xs) :
    Calls Tryd.prog 3 #[.int .i64 size, .slice a xs.length cap, .int .u16 most] w (Ret w (.bool true)) := by
  have HHv := hid (fun W (hW : SlO W a cap xs) => heavy_any xs a cap W hW)
  have HKn := hid (fun W (hW : TabW W) => known_any W hW)
  obtain ⟨H, hH⟩ : ∃ H, heavyB xs = H := ⟨_, rfl⟩
  rw [hH] at HHv
  cases H with
  | true =>
    go_enter Tryd.func3, Tryd.ntmps3
    go_wp2_with (first | (go_at_call 8; (with_reducible refine (HHv.out _ (by exact slA hs)).mono ?_); rintro _ _ ⟨⟨e1, rfl⟩, rfl⟩) | (go_at_call 9; (with_reducible refine (HKn.out _ (by exact tabA hT)).mono ?_); rintro _ _ ⟨⟨e2, rfl⟩, rfl⟩))
    go_ret
    exact ⟨(by (try unfold Ov); exact ovA), rfl⟩
  | false =>
    have hl := heavy_len hH
    have HLay := hid (fun W (h1 : TabW W) (h2 : SlO W a cap xs) => layB_any size hz xs hx hl a cap W h1 h2)
    have hsz := lsz_ok size
    obtain ⟨sz, hsz0⟩ : ∃ sz, lsz size = sz := ⟨_, rfl⟩
    rw [hsz0] at HLay hsz
    have hol : (opsL xs).length ≤ 60 := by simp [opsL]; exact hl
    obtain ⟨ops, hops⟩ : ∃ ops, opsL xs = ops := ⟨_, rfl⟩
    rw [hops] at HLay hol
    clear hx hz hH hops hsz0
    go_enter Tryd.func3, Tryd.ntmps3
    go_wp2_with (first
      | (go_at_call 8; (with_reducible refine (HHv.out _ (by exact slA hs)).mono ?_); rintro _ _ ⟨⟨e1, rfl⟩, rfl⟩)
      | (go_at_call 9; (with_reducible refine (HKn.out _ (by exact tabA hT)).mono ?_); rintro _ _ ⟨⟨e2, rfl⟩, rfl⟩)
      | (go_at_call 10
         (with_reducible refine (HLay.out _ (by exact tabA hT) (by exact slA hs)).mono ?_)
         rintro _ W1 ⟨b, mb, L, al, cl, rs, rfl, ⟨e1, hW1⟩, hb, he, hsl, _, hmap⟩
         have O1 : Hid (∃ e, W1 = over w e) := hid (by rw [hW1]; exact (by (try unfold Ov); exact ovA))
         have hLd := laid_of hsz.1 hol hb he hmap
         have HL := hid hLd
         have HSL := hid hsl
         have hrl : rs.length ≤ 60 := by rw [hLd.len]; exact hLd.I.len
         clear hW1 hb he hmap hLd hsl))
    go_loopw [9, 10, 11, 12, 13, 14, 15, 16, 17, 18, 19, 20, 21] (fun i _ _ _ _ _ _ _ _ _ _ _ _ wr => ∃ k : Nat, k ≤ rs.length ∧ i = .int .i64 (k : Nat) ∧ Ov W1 wr) (fun i _ _ _ _ _ _ _ _ _ _ _ _ _ => rs.length - (intOf i).toNat)
    case atStart => exact ⟨0, Nat.zero_le _, rfl, (by (try unfold Ov); exact ovA)⟩
    case round =>
      obtain ⟨k, hk, rfl, ⟨e0, rfl⟩⟩ := hrel
      by_cases hlt : k < rs.length
      · obtain ⟨bl, off, rfl, hbl, x0, x1⟩ := SlR.at_ HSL.out hlt
        obtain ⟨id, s, hK⟩ := HL.out.k hlt
        rw [hK.nid hlt] at x0
        have HK := hid hK
        have hcl := hK.cl
        have hall := hK.all
        obtain ⟨c0, b0, hz0⟩ := has_at hK.ok (Nat.zero_le _)
        have HZ0 := hid hz0
        have HBh : Hid (∀ W, (∃ e, W = over W1 e) → Calls Tryd.prog 11 #[.pointer (some ⟨b, 0, none⟩), .int .u32 (id : Nat), .agg #[.int .u32 0, .int .u32 0, .int .u32 0]] W (Ret W (.tuple #[.int .i64 (s.behind Pl.zero), .int .u16 0]))) := hid (fun W hW => by
          have k := behind_any (bk_ov HL.out.bk hW) id (p := Pl.zero) (by rw [hK.get]; exact hz0) (by rw [hK.get]; omega)
          rw [hK.get] at k; exact k)
        obtain ⟨B0, hB0⟩ : ∃ B, s.behind Pl.zero = B := ⟨_, rfl⟩
        rw [hB0] at HBh
        have HB0 := hid hB0
        clear hK hz0 hB0 x1
        go_wp2_with (first | (go_at_call 11; (with_reducible refine (HBh.out _ (by (try unfold Ov); exact ovA)).mono ?_); rintro _ _ ⟨⟨e3, rfl⟩, rfl⟩))
        refine gen_w ?_
        intro W2 hW2
        have O2 : Hid (∃ e, W2 = over W1 e) := hid (by rw [hW2]; exact (by (try unfold Ov); exact ovA))
        obtain ⟨p11, hp11⟩ : ∃ p, p = W1.heap.size + e0.heap.size := ⟨_, rfl⟩
        have D0 : Hid (Blk W2 p11 [.int .u32 0, .int .u32 0, .int .u32 0] 35) := hid (by rw [hW2, hp11]; exact Blk.on (Blk.new' (by simp)) _)
        have hp1 : W1.heap.size ≤ p11 := by omega
        rw [← hp11]
        clear hW2 hp11 x0 hbl
        have hfb := fin_le HK.out.ok
        obtain ⟨⟨fc, fb, fn⟩, hfin⟩ : ∃ f, s.fin = f := ⟨_, rfl⟩
        rw [hfin] at hfb
        simp only at hfb
        have HFin := hid hfin
        have HEnd : Hid (∀ W, (∃ e, W = over W1 e) → Calls Tryd.prog 12 #[.pointer (some ⟨b, 0, none⟩), .int .u32 (id : Nat)] W (Ret W (.agg #[.int .u32 (fc : Nat), .int .u32 (fb : Nat), .int .u32 (fn : Nat)]))) := hid (fun W hW => by
          have k := bend_any (bk_ov HL.out.bk hW) id (by rw [HK.out.get]; omega)
          rw [HK.out.get, hfin] at k
          exact k)
        clear hfin
        go_loopw [12, 14, 15, 16, 17, 18, 19, 20, 21] (fun lf nv _ _ _ _ _ _ _ wx => ∃ (n : Nat) (p : Pl) (c : List Sm) (cb : Bool), s.has p c cb ∧ lf = .int .i64 (s.behind p) ∧ nv = .int .i64 (n : Nat) ∧ n ≤ s.rank p ∧ Blk wx p11 [.int .u32 (p.chunk : Nat), .int .u32 (p.bits : Nat), .int .u32 (p.count : Nat)] 35 ∧ Ov W1 wx) (fun _ nv _ _ _ _ _ _ _ _ => 100 - (intOf nv).toNat)
        case atStart => exact ⟨0, Pl.zero, c0, b0, HZ0.out, by rw [HB0.out], rfl, Nat.zero_le _, D0.out, O2.out⟩
        case round =>
          obtain ⟨n, ⟨pc, pb, pn⟩, c, cb, hh, rfl, rfl, hn, hB, hov⟩ := hrel
          have O3 : Hid (∃ e, wr = over W1 e) := hid hov
          have D3 := hid hB
          have HH := hid hh
          have hrk := rank_le hh
          have hpl := has_le HK.out.ok hh
          simp only at hpl hB
          have v0 := hB.cell 0 rfl
          have v1 := hB.cell 1 rfl
          have v2 := hB.cell 2 rfl
          have vl := hB.lt
          clear hov hB hh
          by_cases hp : (⟨pc, pb, pn⟩ : Pl) = s.fin
          · rw [HFin.out] at hp
            simp only [Pl.mk.injEq] at hp
            obtain ⟨rfl, rfl, rfl⟩ := hp
            have hbf : s.behind ⟨pc, pb, pn⟩ = 0 := by rw [← HFin.out]; exact behind_fin s
            rw [hbf]
            clear hbf
            go_wp2
            refine M2.wp_region_mix [3] 9 (by kernel_rfl) (by kernel_rfl) (by decide) ?_
            simp only [List.take_succ_cons, List.take_zero, List.drop_succ_cons, List.drop_zero]
            with_reducible refine M2.mixL_quiet 3 (by kernel_rfl) ?_
            simp only [List.take_succ_cons, List.take_zero, List.drop_succ_cons, List.drop_zero]
            repeat (go_big_quiet_step (fail))
            with_reducible refine wpQuiet_nil ?_
            with_reducible refine M2.mixL_eff (by decide) ?_
            go_wp2_with ((go_at_call 12; (with_reducible refine (HEnd.out _ (by (try unfold Ov); exact ovB O3.out)).mono ?_); rintro _ _ ⟨⟨e4, rfl⟩, rfl⟩))
            refine M2.MixQ.mk (by (try unfold Ov); exact ovA) ?_
            with_reducible refine M2.mixL_quiet 5 (by kernel_rfl) ?_
            simp only [List.take_succ_cons, List.take_zero, List.drop_succ_cons, List.drop_zero]
            repeat (go_big_quiet_step (fail))
            with_reducible refine wpQuiet_nil ?_
            with_reducible refine M2.mixL_nil ?_
            with_reducible refine M2.mixL_nil ?_
            go_wp2
            go_roundw
            case rel => exact ⟨k + 1, by omega, by go_num, (by (try unfold Ov); exact ovB O3.out)⟩
            case measure => (simp [intOf]; try omega)
          · have hne := hp
            rw [HFin.out] at hne
            obtain ⟨hne2, hne3, hne4, hne5, hne6, hne7⟩ := pl_ne hne
            have hrf := rank_fin HK.out.ok HH.out hp
            have hn100 : n < 100 := by omega
            clear hne
            obtain ⟨fk, fcl, fsm, fbi, tc, tb, tn, hnx, hcut⟩ := cut_xx HL.out.bk HK.out.get HH.out (by omega) hp most (by omega)
            have hfbl := hnx.len
            have hsml := hnx.sl
            have hbeh := hnx.beh
            have hrkn := hnx.rank
            obtain ⟨c2, cb2, hh2, hcl1, hcl0⟩ := hnx.sum
            simp only at hfbl hsml hcl1 hcl0 hbeh
            have hb1 := behind_lo HH.out
            have hb2 := behind_lo hh2
            have hb3 := behind_hi HK.out.ok hcl (⟨pc, pb, pn⟩ : Pl)
            have HH2 := hid hh2
            have HSum := hid (fun W (hW : ∃ e, W = over W1 e) => sum_any (bk_ov HL.out.bk hW) id (p := ⟨tc, tb, tn⟩) (by rw [HK.out.get]; exact hh2) (by rw [HK.out.get]; omega))
            obtain ⟨sm2, hsm2⟩ : ∃ x, sumP c2 tn = x := ⟨_, rfl⟩
            simp only at HSum hcl1 hcl0
            rw [hsm2] at HSum hcl1 hcl0
            have HMore := hid (fun W A C (hW : SlB W A C (pack fbi)) => rmore_any fsm (by omega) fbi (by omega) A C W hW)
            obtain ⟨mr, hmr⟩ : ∃ x, moreR fsm fbi = x := ⟨_, rfl⟩
            rw [hmr] at HMore hcl0
            have HCut := hid hcut
            simp only [Pl.v] at HSum
            obtain ⟨bh, hbh⟩ : ∃ x, s.behind ⟨pc, pb, pn⟩ = x := ⟨_, rfl⟩
            obtain ⟨bt, hbt⟩ : ∃ x, s.behind ⟨tc, tb, tn⟩ = x := ⟨_, rfl⟩
            rw [hbh, hbt] at hbeh
            rw [hbh] at hb1 hb3 ⊢
            rw [hbt] at hb2
            have HBT := hid hbt
            obtain ⟨bl2, hbl2⟩ : ∃ x, fbi.length = x := ⟨_, rfl⟩
            rw [hbl2] at HCut HMore hbeh hfbl
            have hbb : (bl2 : Int) ≤ bh := by omega
            have HBEH := hid hbeh
            clear hnx hcut hh2 hsm2 hmr hbh hbt hbl2 hbeh
            cases fcl with
            | false =>
              obtain rfl : sm2 = mr := hcl0 rfl
              clear hcl0 hcl1
              go_wp2
              refine M2.wp_region_mix [3] 9 (by kernel_rfl) (by kernel_rfl) (by decide) ?_
              simp only [List.take_succ_cons, List.take_zero, List.drop_succ_cons, List.drop_zero]
              with_reducible refine M2.mixL_quiet 3 (by kernel_rfl) ?_
              simp only [List.take_succ_cons, List.take_zero, List.drop_succ_cons, List.drop_zero]
              repeat (go_big_quiet_step (fail))
              with_reducible refine wpQuiet_nil ?_
              with_reducible refine M2.mixL_eff (by decide) ?_
              go_wp2_with ((go_at_call 12; (with_reducible refine (HEnd.out _ (by (try unfold Ov); exact ovB O3.out)).mono ?_); rintro _ _ ⟨⟨e4, rfl⟩, rfl⟩))
              refine M2.MixQ.mk (by (try unfold Ov); exact ovA) ?_
              with_reducible refine M2.mixL_quiet 5 (by kernel_rfl) ?_
              simp only [List.take_succ_cons, List.take_zero, List.drop_succ_cons, List.drop_zero]
              repeat (go_big_quiet_step (fail))
              with_reducible refine wpQuiet_nil ?_
              with_reducible refine M2.mixL_nil ?_
              with_reducible refine M2.mixL_nil ?_
              go_wp2_with (first
                | (go_at_call 13
                   (with_reducible refine (HCut.out _ (by (try unfold Ov); exact ovB O3.out)).mono ?_)
                   rintro _ _ ⟨a9, c9, rfl, ⟨e9, rfl⟩, o9⟩
                   have HO9 := hid o9
                   clear o9)
                | (go_at_call 14
                   refine gen_c ?_
                   intro W4 hW4
                   obtain ⟨p15, hp15⟩ : ∃ p, p = wr.heap.size + e4.heap.size + e9.heap.size := ⟨_, rfl⟩
                   have F4 : Hid (Blk W4 p15 [.int .u8 0, .int .u32 0, .int .u32 (id : Nat), .int .u32 (pc : Nat), .int .u32 (pb : Nat), .int .u32 (pn : Nat), .int .u32 (fk : Nat), .bool false, .int .u64 (fsm : Nat), .slice a9 (pack fbi).length c9, .int .i64 (bl2 : Nat)] 45) := hid (by rw [hW4, hp15]; exact Blk.alloc (Blk.new' (by simp)) _)
                   have T4 : Hid (Blk W4 (p15 + 1) [.int .u32 (tc : Nat), .int .u32 (tb : Nat), .int .u32 (tn : Nat)] 35) := hid (by rw [hW4, hp15]; exact Blk.new' (by simp))
                   have P4 : Hid (Blk W4 p11 [.int .u32 (pc : Nat), .int .u32 (pb : Nat), .int .u32 (pn : Nat)] 35) := hid (by rw [hW4]; exact (by exact bxA D3.out))
                   have O4 : Hid (∃ e, W4 = over W1 e) := hid (by rw [hW4]; exact (by (try unfold Ov); exact ovB O3.out))
                   have S4 : Hid (SlB W4 a9 c9 (pack fbi)) := hid (by have h := (Own.slice' bcs_len HO9.out).2; rw [hW4]; exact (by exact slA h))
                   have hpp : p11 < p15 := by rw [hp15]; have := D3.out.lt; omega
                   rw [← hp15]
                   clear hW4 hp15 HO9
                   (with_reducible refine (HMore.out _ _ _ S4.out).mono ?_)
                   rintro _ _ ⟨⟨e5, rfl⟩, rfl⟩
                   have f7 := F4.out.cell 7 rfl
                   have f10 := F4.out.cell 10 rfl
                   have fl := F4.out.lt
                   have t0 := T4.out.cell 0 rfl
                   have t1 := T4.out.cell 1 rfl
                   have t2 := T4.out.cell 2 rfl
                   have tl := T4.out.lt
                   have p0 := P4.out.cell 0 rfl
                   have p1 := P4.out.cell 1 rfl
                   have p2 := P4.out.cell 2 rfl
                   have pf : ∀ j, W4.frozen? ⟨p11, j, none⟩ = false := fun j => P4.out.free j
                   have pl := P4.out.lt
                   clear v0 v1 v2 vl)
                | (go_at_call 15; (with_reducible refine (HSum.out _ (by (try unfold Ov); exact ovB O4.out)).mono ?_); rintro _ _ ⟨⟨e6, rfl⟩, rfl⟩))
              go_roundw
              case rel =>
                refine ⟨n + 1, ⟨tc, tb, tn⟩, c2, cb2, HH2.out, ?_, by go_num, by omega, ?_, ?_⟩
                · rw [HBT.out]
                  have := HBEH.out
                  go_num
                · exact Blk.on (Blk.on (((P4.out.set 0 _).set 1 _).set 2 _) _) _
                · exact (by (try unfold Ov); exact ovB O4.out)
              case measure => (simp [intOf]; try omega)
            | true =>
              obtain rfl : sm2 = 0 := hcl1 rfl
              have HSum' : Hid (∀ W, (∃ e, W = over W1 e) → Calls Tryd.prog 15 #[.pointer (some ⟨b, 0, none⟩), .int .u32 (id : Nat), .agg #[.int .u32 (tc : Nat), .int .u32 (tb : Nat), .int .u32 (tn : Nat)]] W (Ret W (.tuple #[.int .u64 0, .int .u16 0]))) := HSum
              clear HSum
              have HSum := HSum'
              clear hcl0 hcl1 HSum'
              go_wp2
              refine M2.wp_region_mix [3] 9 (by kernel_rfl) (by kernel_rfl) (by decide) ?_
              simp only [List.take_succ_cons, List.take_zero, List.drop_succ_cons, List.drop_zero]
              with_reducible refine M2.mixL_quiet 3 (by kernel_rfl) ?_
              simp only [List.take_succ_cons, List.take_zero, List.drop_succ_cons, List.drop_zero]
              repeat (go_big_quiet_step (fail))
              with_reducible refine wpQuiet_nil ?_
              with_reducible refine M2.mixL_eff (by decide) ?_
              go_wp2_with ((go_at_call 12; (with_reducible refine (HEnd.out _ (by (try unfold Ov); exact ovB O3.out)).mono ?_); rintro _ _ ⟨⟨e4, rfl⟩, rfl⟩))
              refine M2.MixQ.mk (by (try unfold Ov); exact ovA) ?_
              with_reducible refine M2.mixL_quiet 5 (by kernel_rfl) ?_
              simp only [List.take_succ_cons, List.take_zero, List.drop_succ_cons, List.drop_zero]
              repeat (go_big_quiet_step (fail))
              with_reducible refine wpQuiet_nil ?_
              with_reducible refine M2.mixL_nil ?_
              with_reducible refine M2.mixL_nil ?_
              go_wp2_with (first
                | (go_at_call 13
                   (with_reducible refine (HCut.out _ (by (try unfold Ov); exact ovB O3.out)).mono ?_)
                   rintro _ _ ⟨a9, c9, rfl, ⟨e9, rfl⟩, o9⟩
                   have HO9 := hid o9
                   clear o9)
                | (go_at_call 14
                   refine gen_c ?_
                   intro W4 hW4
                   obtain ⟨p15, hp15⟩ : ∃ p, p = wr.heap.size + e4.heap.size + e9.heap.size := ⟨_, rfl⟩
                   have F4 : Hid (Blk W4 p15 [.int .u8 0, .int .u32 0, .int .u32 (id : Nat), .int .u32 (pc : Nat), .int .u32 (pb : Nat), .int .u32 (pn : Nat), .int .u32 (fk : Nat), .bool true, .int .u64 (fsm : Nat), .slice a9 (pack fbi).length c9, .int .i64 (bl2 : Nat)] 45) := hid (by rw [hW4, hp15]; exact Blk.alloc (Blk.new' (by simp)) _)
                   have T4 : Hid (Blk W4 (p15 + 1) [.int .u32 (tc : Nat), .int .u32 (tb : Nat), .int .u32 (tn : Nat)] 35) := hid (by rw [hW4, hp15]; exact Blk.new' (by simp))
                   have P4 : Hid (Blk W4 p11 [.int .u32 (pc : Nat), .int .u32 (pb : Nat), .int .u32 (pn : Nat)] 35) := hid (by rw [hW4]; exact (by exact bxA D3.out))
                   have O4 : Hid (∃ e, W4 = over W1 e) := hid (by rw [hW4]; exact (by (try unfold Ov); exact ovB O3.out))
                   have S4 : Hid (SlB W4 a9 c9 (pack fbi)) := hid (by have h := (Own.slice' bcs_len HO9.out).2; rw [hW4]; exact (by exact slA h))
                   have hpp : p11 < p15 := by rw [hp15]; have := D3.out.lt; omega
                   rw [← hp15]
                   clear hW4 hp15 HO9
                   (with_reducible refine (HMore.out _ _ _ S4.out).mono ?_)
                   rintro _ _ ⟨⟨e5, rfl⟩, rfl⟩
                   have f7 := F4.out.cell 7 rfl
                   have f10 := F4.out.cell 10 rfl
                   have fl := F4.out.lt
                   have t0 := T4.out.cell 0 rfl
                   have t1 := T4.out.cell 1 rfl
                   have t2 := T4.out.cell 2 rfl
                   have tl := T4.out.lt
                   have p0 := P4.out.cell 0 rfl
                   have p1 := P4.out.cell 1 rfl
                   have p2 := P4.out.cell 2 rfl
                   have pf : ∀ j, W4.frozen? ⟨p11, j, none⟩ = false := fun j => P4.out.free j
                   have pl := P4.out.lt
                   clear v0 v1 v2 vl)
                | (go_at_call 15; (with_reducible refine (HSum.out _ (by (try unfold Ov); exact ovB O4.out)).mono ?_); rintro _ _ ⟨⟨e6, rfl⟩, rfl⟩))
              go_roundw
              case rel =>
                refine ⟨n + 1, ⟨tc, tb, tn⟩, c2, cb2, HH2.out, ?_, by go_num, by omega, ?_, ?_⟩
                · rw [HBT.out]
                  have := HBEH.out
                  go_num
                · exact Blk.on (Blk.on (((P4.out.set 0 _).set 1 _).set 2 _) _) _
                · exact (by (try unfold Ov); exact ovB O4.out)
              case measure => (simp [intOf]; try omega)
      · obtain rfl : k = rs.length := by omega
        go_wp2
        go_ret
        exact ⟨(by (try unfold Ov); exact ovB O1.out), rfl⟩
end Go.Proofs.YtlmfcghlbingjaaDoor
