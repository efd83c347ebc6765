/- Walks: what a frame brings, from the end on. -/
import Derived.Test.YtojkoijdndinoaaDoorHL
namespace Go.Proofs.YtojkoijdndinoaaDoor
set_option linter.unusedVariables false
set_option linter.unusedSimpArgs false
open Go.RowKit
attribute [local go_sem] over_drew chg_drew
attribute [local go_sem high] place_eql place_neq

set_option maxRecDepth 100000 in
set_option maxHeartbeats 8000000 in
theorem brought_u {base bx : Nat} {w : World} {b n sz mb : Nat} {L : List Se} (h : BkAt base w b n sz mb L) (hT : TabW w) (hn : L.length < n) (hn2 : n ≤ 64) (hsz : sz ≤ 24) {x : Se} (hs : SeAt bx w x) (hcl : x.s.cl.length ≤ 900) (f : Fi) (hf : FiOk w f) (h1 : f.fr = x.s.fin) {er : Nat} {cs : List Sm} (hc : BrCase (bitsC En.zero x.s.op) x.s sz f er cs) :
    Calls Tryd.prog 23 #[.pointer (some ⟨b, 0, none⟩), .pointer (some ⟨x.sp, 0, none⟩), f.v] w (BrPost w f.cl er cs) := by
  have hid32 := hf.id
  have h32a := hf.pc
  have h32b := hf.pb
  have h32c := hf.pn
  have h32d := hf.ct
  obtain ⟨g, cap, m, ho⟩ := hs.open_
  have hm : x.s.cl.length = m := ho.hc
  have HR := hid (fun W (hW : ∃ e, W = over w e) => room_any (bk_ov h hW) f.id hn hn2)
  have HE := hid (fun W (hW : ∃ e, W = over w e) => end_any (hs.ov hW) (ho.ov hW) (by omega))
  obtain ⟨⟨fc, fb, fn⟩, hfin⟩ : ∃ q, x.s.fin = q := ⟨_, rfl⟩
  rw [hfin] at HE
  simp only [Pl.v] at HE
  have HFin := hid hfin
  have HFi := hid hf
  have HS := hid hs
  have HO := hid ho
  have hfc : fc = m := by have := congrArg Pl.chunk hfin; exact this.symm.trans hm
  have HBk := hid h
  have HT := hid hT
  have HCase := hid hc
  have HLst := hid (fun W (hW : ∃ e, W = over w e) => last_any (hs.ov hW) (ho.ov hW) (by omega))
  rw [hfin] at h1
  have his := hs.is_.op
  simp only [hm] at his
  have hpl : m < x.ps.length := by have := ho.hl; omega
  have hpo := ho.part hpl
  have hpt := hs.pts _ (List.getElem_mem hpl)
  obtain ⟨pt, hptx⟩ : ∃ pt, x.ps[m]'hpl = pt := ⟨_, rfl⟩
  have his2 : PrtIs pt x.s.op false := by rw [← hptx]; exact his
  rw [hptx] at hpo hpt
  obtain ⟨l0, hl0⟩ : ∃ l, bitsC En.zero x.s.op = l := ⟨_, rfl⟩
  have u0 := hpo.r0
  have u1 := hpo.r1
  have hptL := his2.L
  rw [hl0] at hptL
  rw [hptL] at u0 u1
  have SB0 := hid hpt.b
  rw [hptL] at SB0
  have hgl := ho.lt
  have hol := hs.ok.op
  have hob : l0.length ≤ 3504 := by rw [← hl0, blen_all]; exact blen_le hol _
  rw [hl0] at HCase
  obtain ⟨kd, ep, id, pc, pb, pn, ct, cl, sm, fa, fcap, bs, N⟩ := f
  obtain ⟨hne2, hne3, hne4, hne5, hne6, hne7⟩ := pl_eq h1
  obtain ⟨a0, ha0⟩ : ∃ a, pt.ba = a := ⟨_, rfl⟩
  obtain ⟨c0, hc0⟩ : ∃ c, pt.bc = c := ⟨_, rfl⟩
  rw [ha0, hc0] at SB0 u0
  simp only at *
  clear hs ho h hfin hfc hc hT h1 his hpo hpt hptx his2 hol hl0 hptL ha0 hc0
  have SB : Hid (∀ W : World, (∃ e, W = over w e) → SlB W a0 c0 (pack l0)) := hid (fun W hW => Sl.ov SB0.out hW)
  obtain ⟨ah, hah⟩ : ∃ ah, x.s.ahead = ah := ⟨_, rfl⟩
  obtain ⟨sb, hsb⟩ : ∃ sb, x.s.some = sb := ⟨_, rfl⟩
  have HAH := hid hah
  have HSB := hid hsb
  clear hah hsb
  rcases HCase.out with ⟨rfl, rfl, hu⟩ | ⟨lf, xs, e, hb, hN, hrun, hcs⟩
  · have HJ := hid (fun p W (h1 : Sl 2 Br.cs W (some ⟨p, 0, none⟩) 2 [⟨a0, c0, pack l0, (l0.length : Nat)⟩, ⟨fa, fcap, bs, N⟩]) (h2 : SlB W a0 c0 (pack l0)) (h3 : SlB W fa fcap bs) => join_no (by omega) HFi.out.lt (show bs.length ≤ 100000 by have := HFi.out.len; simp only at this; omega) HFi.out.n hu p W h1 h2 h3)
    clear hu
    go_enter Tryd.func23, Tryd.ntmps23
    go_wp2_with (first
      | (first | (go_at_call 27; (with_reducible refine (HLst.out _ (by (try unfold Ov); exact ovA)).mono ?_); rintro _ _ ⟨⟨e3, rfl⟩, rfl⟩) | (go_at_call 25; (with_reducible refine (HR.out _ (by (try unfold Ov); exact ovA)).mono ?_); rintro _ _ ⟨⟨e1, rfl⟩, rfl⟩))
      | (go_at_call 30; (with_reducible refine (HE.out _ (by (try unfold Ov); exact ovA)).mono ?_); rintro _ _ ⟨⟨e2, rfl⟩, rfl⟩)
      | (go_at_call 39
         refine gen_c ?_
         intro W4 hW4
         obtain ⟨pl, hpl⟩ : ∃ p, p = w.heap.size + 1 + 1 + e1.heap.size + e2.heap.size + 1 + 1 + e3.heap.size := ⟨_, rfl⟩
         have P5 : Hid (Blk W4 w.heap.size [.int .u8 kd, .int .u32 ep, .int .u32 (id : Nat), .int .u32 (pc : Nat), .int .u32 (pb : Nat), .int .u32 (pn : Nat), .int .u32 (ct : Nat), .bool cl, .int .u64 sm, .slice fa (bs).length fcap, .int .i64 (N)] 46) := hid (by rw [hW4]; repeat (first | exact Blk.new' (by simp; done) | with_reducible refine Blk.on ?_ _ | with_reducible refine Blk.alloc ?_ _ | with_reducible refine Blk.drew ?_))
         have P6 : Hid (Blk W4 (w.heap.size + 1) [.slice none 0 0, .int .i64 0, .slice none 0 0, .int .i64 0, .int .i64 0, .int .i64 0, .bool false, .int .u64 0, .int .u8 0, .int .u8 0, .bool false] 79) := hid (by rw [hW4]; repeat (first | exact Blk.new' (by simp; done) | with_reducible refine Blk.on ?_ _ | with_reducible refine Blk.alloc ?_ _ | with_reducible refine Blk.drew ?_))
         have O4 : Hid (∃ e, W4 = over w e) := hid (by rw [hW4]; exact (by (try unfold Ov); exact ovA))
         have S12 : Hid (Sl 2 Br.cs W4 (some ⟨pl, 0, none⟩) 2 [⟨a0, c0, pack l0, (l0.length : Nat)⟩, ⟨fa, fcap, bs, N⟩]) := hid (by rw [hW4, hpl]; exact (by (repeat with_reducible refine Sl.drew ?_); refine Sl.lit_as (xs :=  [(⟨a0, c0, pack l0, (l0.length : Nat)⟩ : Br), ⟨fa, fcap, bs, N⟩]) Br.cs_len ?_ ?_ ?_ ?_ <;> first | rfl | (simp; done) | (simp [maxLen]; done) | (simp; omega)))
         have S10 : Hid (SlB W4 a0 c0 (pack l0)) := hid (by rw [hW4]; exact SB.out _ (by (try unfold Ov); exact ovA))
         have SF := hid (Sl.ov HFi.out.s O4.out)
         rw [← hpl]
         clear hW4 hpl
         have hs3 := HS.out.ov O4.out
         have B3 := bk_ov HBk.out O4.out
         have s1 := hs3.blk.cell 1 rfl
         have s2 := hs3.blk.cell 2 rfl
         have sl := hs3.blk.lt
         have b1 := B3.blk.cell 1 rfl
         have bl := B3.blk.lt
         have p52 := P5.out.cell 5 rfl
         have p54 := P5.out.cell 6 rfl
         have p55 := P5.out.cell 7 rfl
         have p5l := P5.out.lt
         have z0 := P6.out.cell 0 rfl
         have z1 := P6.out.cell 1 rfl
         have z2 := P6.out.cell 2 rfl
         have z3 := P6.out.cell 3 rfl
         have z4 := P6.out.cell 4 rfl
         have z5 := P6.out.cell 5 rfl
         have z6 := P6.out.cell 6 rfl
         have z7 := P6.out.cell 7 rfl
         have z8 := P6.out.cell 8 rfl
         have z9 := P6.out.cell 9 rfl
         have z10 := P6.out.cell 10 rfl
         have zf : ∀ j, W4.frozen? ⟨w.heap.size + 1, j, none⟩ = false := fun j => P6.out.free j
         have zl := P6.out.lt
         have HT4 := hid (TabW.ov HT.out O4.out)
         rw [HAH.out] at s1
         rw [HSB.out] at s2
         clear hs3 B3
         (with_reducible refine (HJ.out _ _ S12.out S10.out SF.out).mono ?_)
         rintro _ _ ⟨⟨e5, rfl⟩, rfl⟩))
    (try simp only [Exit.inBlock, Exit.then])
    refine bodyPost_ret (v := ?rv92) ?rh92 rfl ?rp92
    case rh92 => (simp only [results, show Tryd.f23.results = #[.cell 6 79, .tmp 7] from rfl]; go_simp; rfl)
    refine ⟨(by (try unfold Ov); exact ovB O4.out), ?_⟩
    rw [if_neg (by decide)]
    rfl
  · simp only at hb hN
    subst hb hN
    have hll : lf.length ≤ 600000 := by have := HFi.out.len; simp only [pack_length] at this; unfold nb at this; omega
    have HJ := hid (fun p W (h1 : Sl 2 Br.cs W (some ⟨p, 0, none⟩) 2 [⟨a0, c0, pack l0, (l0.length : Nat)⟩, ⟨fa, fcap, pack lf, (lf.length : Nat)⟩]) (h2 : SlB W a0 c0 (pack l0)) (h3 : SlB W fa fcap (pack lf)) => join_yes (by omega) hll p W h1 h2 h3)
    have hLl : (l0 ++ lf).length ≤ 700000 := by rw [List.length_append]; omega
    obtain ⟨LL, hLL⟩ : ∃ LL, l0 ++ lf = LL := ⟨_, rfl⟩
    rw [hLL] at HJ hrun hLl
    have hxl : xs.length ≤ 700000 := by have := hrun.rd.len; omega
    have HA0 := hid (fun A C W (h1 : TabW W) (h2 : SlB W A C (pack LL)) => call_any _ _ A C xs e (each_ok hLl A C hrun) hxl W h1 h2)
    have HE0 := hid (fun A C W (h1 : TabW W) (h2 : SlB W A C (pack LL)) => cends_any _ _ A C xs e (each_ok hLl A C hrun) hxl W h1 h2)
    have HRun := hid hrun
    have HLL := hid hLL
    clear hrun hLL
    rcases hcs with ⟨rfl, rfl, rfl⟩ | ⟨rfl, rfl, rfl, ht⟩ | ⟨rfl, rfl, rfl, h1, h2, h3, h4⟩
    · have HAll : Hid (∀ A C W, TabW W → SlB W A C (pack LL) → Calls Tryd.prog 22 #[bv A (pack LL).length C LL.length] W (fun en w' => ∃ v, en = .returned (.tuple #[v, .agg #[.int .i64 0, .int .i64 0, .int .i64 0, .bool false, .int .u64 0, .int .u8 0, .int .u8 0], .int .u16 61]) ∧ (∃ x, w' = over W x) ∧ OwnM W.heap.size w' v [])) := hid (fun A C W h1 h2 => HA0.out A C W h1 h2)
      clear HA0 HE0
      go_enter Tryd.func23, Tryd.ntmps23
      go_wp2_with (first
        | (first | (go_at_call 27; (with_reducible refine (HLst.out _ (by (try unfold Ov); exact ovA)).mono ?_); rintro _ _ ⟨⟨e3, rfl⟩, rfl⟩) | (go_at_call 25; (with_reducible refine (HR.out _ (by (try unfold Ov); exact ovA)).mono ?_); rintro _ _ ⟨⟨e1, rfl⟩, rfl⟩))
        | (go_at_call 30; (with_reducible refine (HE.out _ (by (try unfold Ov); exact ovA)).mono ?_); rintro _ _ ⟨⟨e2, rfl⟩, rfl⟩)
        | (go_at_call 39
           refine gen_c ?_
           intro W4 hW4
           obtain ⟨pl, hpl⟩ : ∃ p, p = w.heap.size + 1 + 1 + e1.heap.size + e2.heap.size + 1 + 1 + e3.heap.size := ⟨_, rfl⟩
           have P5 : Hid (Blk W4 w.heap.size [.int .u8 kd, .int .u32 ep, .int .u32 (id : Nat), .int .u32 (pc : Nat), .int .u32 (pb : Nat), .int .u32 (pn : Nat), .int .u32 (ct : Nat), .bool cl, .int .u64 sm, .slice fa (pack lf).length fcap, .int .i64 ((lf.length : Nat))] 46) := hid (by rw [hW4]; repeat (first | exact Blk.new' (by simp; done) | with_reducible refine Blk.on ?_ _ | with_reducible refine Blk.alloc ?_ _ | with_reducible refine Blk.drew ?_))
           have P6 : Hid (Blk W4 (w.heap.size + 1) [.slice none 0 0, .int .i64 0, .slice none 0 0, .int .i64 0, .int .i64 0, .int .i64 0, .bool false, .int .u64 0, .int .u8 0, .int .u8 0, .bool false] 79) := hid (by rw [hW4]; repeat (first | exact Blk.new' (by simp; done) | with_reducible refine Blk.on ?_ _ | with_reducible refine Blk.alloc ?_ _ | with_reducible refine Blk.drew ?_))
           have O4 : Hid (∃ e, W4 = over w e) := hid (by rw [hW4]; exact (by (try unfold Ov); exact ovA))
           have S12 : Hid (Sl 2 Br.cs W4 (some ⟨pl, 0, none⟩) 2 [⟨a0, c0, pack l0, (l0.length : Nat)⟩, ⟨fa, fcap, pack lf, (lf.length : Nat)⟩]) := hid (by rw [hW4, hpl]; exact (by (repeat with_reducible refine Sl.drew ?_); refine Sl.lit_as (xs :=  [(⟨a0, c0, pack l0, (l0.length : Nat)⟩ : Br), ⟨fa, fcap, pack lf, (lf.length : Nat)⟩]) Br.cs_len ?_ ?_ ?_ ?_ <;> first | rfl | (simp; done) | (simp [maxLen]; done) | (simp; omega)))
           have S10 : Hid (SlB W4 a0 c0 (pack l0)) := hid (by rw [hW4]; exact SB.out _ (by (try unfold Ov); exact ovA))
           have SF := hid (Sl.ov HFi.out.s O4.out)
           rw [← hpl]
           clear hW4 hpl
           have hs3 := HS.out.ov O4.out
           have B3 := bk_ov HBk.out O4.out
           have s1 := hs3.blk.cell 1 rfl
           have s2 := hs3.blk.cell 2 rfl
           have sl := hs3.blk.lt
           have b1 := B3.blk.cell 1 rfl
           have bl := B3.blk.lt
           have p52 := P5.out.cell 5 rfl
           have p54 := P5.out.cell 6 rfl
           have p55 := P5.out.cell 7 rfl
           have p5l := P5.out.lt
           have z0 := P6.out.cell 0 rfl
           have z1 := P6.out.cell 1 rfl
           have z2 := P6.out.cell 2 rfl
           have z3 := P6.out.cell 3 rfl
           have z4 := P6.out.cell 4 rfl
           have z5 := P6.out.cell 5 rfl
           have z6 := P6.out.cell 6 rfl
           have z7 := P6.out.cell 7 rfl
           have z8 := P6.out.cell 8 rfl
           have z9 := P6.out.cell 9 rfl
           have z10 := P6.out.cell 10 rfl
           have zf : ∀ j, W4.frozen? ⟨w.heap.size + 1, j, none⟩ = false := fun j => P6.out.free j
           have zl := P6.out.lt
           have HT4 := hid (TabW.ov HT.out O4.out)
           rw [HAH.out] at s1
           rw [HSB.out] at s2
           clear hs3 B3
           (with_reducible refine (HJ.out _ _ S12.out S10.out SF.out).mono ?_)
           rintro _ _ ⟨a5, c5, rfl, ⟨e5, rfl⟩, o5⟩
           have HO5 := hid o5
           have S5 := hid (Own.slice' bcs_len o5).2
           clear o5)
        | (go_at_call 22; (with_reducible refine (HAll.out _ _ _ (by exact tabA HT4.out) (by exact slA S5.out)).mono ?_); rintro _ _ ⟨v6, rfl, ⟨e6, rfl⟩, o6⟩; obtain ⟨a6, c6, rfl, sx6⟩ := Own.slice Sm.cs_len o6; have S6 := hid sx6; clear o6 sx6))
      refine wp_region_over (by kernel_rfl) (by kernel_rfl) ?_
      repeat (go_big_quiet_step ((fail)))
      refine wpQuiet_nil ?_
      intro _ hw'
      obtain ⟨nq, rfl⟩ := hw'
      go_wp2
      (try simp only [Exit.inBlock, Exit.then])
      refine bodyPost_ret (v := ?rv93) ?rh93 rfl ?rp93
      case rh93 => (simp only [results, show Tryd.f23.results = #[.cell 6 79, .tmp 7] from rfl]; go_simp; rfl)
      refine ⟨(by (try unfold Ov); exact ovB O4.out), ?_⟩
      rw [if_neg (by decide)]
      rfl
    · obtain ⟨kq, hkn⟩ : ∃ q, knowC En.zero xs = q := ⟨_, rfl⟩
      obtain ⟨n0, n1, n2, ⟨n3, n4, n5, n6⟩⟩ := kq
      have HAll : Hid (∀ A C W, TabW W → SlB W A C (pack LL) → Calls Tryd.prog 22 #[bv A (pack LL).length C LL.length] W (fun en w' => ∃ v, en = .returned (.tuple #[v, .agg #[.int .i64 n0, .int .i64 n1, .int .i64 n2, .bool n3, .int .u64 (n4 : Nat), .int .u8 (n5 : Nat), .int .u8 (n6 : Nat)], .int .u16 0]) ∧ (∃ x, w' = over W x) ∧ OwnM W.heap.size w' v xs)) := hid (fun A C W h1 h2 => by
        have h := HA0.out A C W h1 h2
        rw [if_pos rfl, if_pos rfl, hkn] at h
        exact h)
      clear hkn HA0 HE0
      rcases ht with ht | ⟨ht, ht2⟩
      · have ht : ¬ xs.length = ct := ht
        have k1 : ((xs.length : Int) != (ct : Int)) = true := by unfold bne; rw [beq_eq_false_iff_ne.2 (by omega)]; rfl
        have k2 : (xs.length != ct) = true := by unfold bne; rw [beq_eq_false_iff_ne.2 (by exact ht)]; rfl
        have k3 : ((xs.length : Int) == (ct : Int)) = false := beq_eq_false_iff_ne.2 (by omega)
        have k4 : (xs.length == ct) = false := beq_eq_false_iff_ne.2 (by exact ht)
        go_enter Tryd.func23, Tryd.ntmps23
        go_wp2_with (first
          | (first | (go_at_call 27; (with_reducible refine (HLst.out _ (by (try unfold Ov); exact ovA)).mono ?_); rintro _ _ ⟨⟨e3, rfl⟩, rfl⟩) | (go_at_call 25; (with_reducible refine (HR.out _ (by (try unfold Ov); exact ovA)).mono ?_); rintro _ _ ⟨⟨e1, rfl⟩, rfl⟩))
          | (go_at_call 30; (with_reducible refine (HE.out _ (by (try unfold Ov); exact ovA)).mono ?_); rintro _ _ ⟨⟨e2, rfl⟩, rfl⟩)
          | (go_at_call 39
             refine gen_c ?_
             intro W4 hW4
             obtain ⟨pl, hpl⟩ : ∃ p, p = w.heap.size + 1 + 1 + e1.heap.size + e2.heap.size + 1 + 1 + e3.heap.size := ⟨_, rfl⟩
             have P5 : Hid (Blk W4 w.heap.size [.int .u8 kd, .int .u32 ep, .int .u32 (id : Nat), .int .u32 (pc : Nat), .int .u32 (pb : Nat), .int .u32 (pn : Nat), .int .u32 (ct : Nat), .bool cl, .int .u64 sm, .slice fa (pack lf).length fcap, .int .i64 ((lf.length : Nat))] 46) := hid (by rw [hW4]; repeat (first | exact Blk.new' (by simp; done) | with_reducible refine Blk.on ?_ _ | with_reducible refine Blk.alloc ?_ _ | with_reducible refine Blk.drew ?_))
             have P6 : Hid (Blk W4 (w.heap.size + 1) [.slice none 0 0, .int .i64 0, .slice none 0 0, .int .i64 0, .int .i64 0, .int .i64 0, .bool false, .int .u64 0, .int .u8 0, .int .u8 0, .bool false] 79) := hid (by rw [hW4]; repeat (first | exact Blk.new' (by simp; done) | with_reducible refine Blk.on ?_ _ | with_reducible refine Blk.alloc ?_ _ | with_reducible refine Blk.drew ?_))
             have O4 : Hid (∃ e, W4 = over w e) := hid (by rw [hW4]; exact (by (try unfold Ov); exact ovA))
             have S12 : Hid (Sl 2 Br.cs W4 (some ⟨pl, 0, none⟩) 2 [⟨a0, c0, pack l0, (l0.length : Nat)⟩, ⟨fa, fcap, pack lf, (lf.length : Nat)⟩]) := hid (by rw [hW4, hpl]; exact (by (repeat with_reducible refine Sl.drew ?_); refine Sl.lit_as (xs :=  [(⟨a0, c0, pack l0, (l0.length : Nat)⟩ : Br), ⟨fa, fcap, pack lf, (lf.length : Nat)⟩]) Br.cs_len ?_ ?_ ?_ ?_ <;> first | rfl | (simp; done) | (simp [maxLen]; done) | (simp; omega)))
             have S10 : Hid (SlB W4 a0 c0 (pack l0)) := hid (by rw [hW4]; exact SB.out _ (by (try unfold Ov); exact ovA))
             have SF := hid (Sl.ov HFi.out.s O4.out)
             rw [← hpl]
             clear hW4 hpl
             have hs3 := HS.out.ov O4.out
             have B3 := bk_ov HBk.out O4.out
             have s1 := hs3.blk.cell 1 rfl
             have s2 := hs3.blk.cell 2 rfl
             have sl := hs3.blk.lt
             have b1 := B3.blk.cell 1 rfl
             have bl := B3.blk.lt
             have p52 := P5.out.cell 5 rfl
             have p54 := P5.out.cell 6 rfl
             have p55 := P5.out.cell 7 rfl
             have p5l := P5.out.lt
             have z0 := P6.out.cell 0 rfl
             have z1 := P6.out.cell 1 rfl
             have z2 := P6.out.cell 2 rfl
             have z3 := P6.out.cell 3 rfl
             have z4 := P6.out.cell 4 rfl
             have z5 := P6.out.cell 5 rfl
             have z6 := P6.out.cell 6 rfl
             have z7 := P6.out.cell 7 rfl
             have z8 := P6.out.cell 8 rfl
             have z9 := P6.out.cell 9 rfl
             have z10 := P6.out.cell 10 rfl
             have zf : ∀ j, W4.frozen? ⟨w.heap.size + 1, j, none⟩ = false := fun j => P6.out.free j
             have zl := P6.out.lt
             have HT4 := hid (TabW.ov HT.out O4.out)
             rw [HAH.out] at s1
             rw [HSB.out] at s2
             clear hs3 B3
             (with_reducible refine (HJ.out _ _ S12.out S10.out SF.out).mono ?_)
             rintro _ _ ⟨a5, c5, rfl, ⟨e5, rfl⟩, o5⟩
             have HO5 := hid o5
             have S5 := hid (Own.slice' bcs_len o5).2
             clear o5)
          | (go_at_call 22; (with_reducible refine (HAll.out _ _ _ (by exact tabA HT4.out) (by exact slA S5.out)).mono ?_); rintro _ _ ⟨v6, rfl, ⟨e6, rfl⟩, o6⟩; obtain ⟨a6, c6, rfl, sx6⟩ := Own.slice Sm.cs_len o6; have S6 := hid sx6; clear o6 sx6))
        refine wp_region_over (by kernel_rfl) (by kernel_rfl) ?_
        repeat (go_big_quiet_step ((fail)))
        refine wpQuiet_nil ?_
        intro _ hw'
        obtain ⟨nq, rfl⟩ := hw'
        go_wp2
        (try simp only [Exit.inBlock, Exit.then])
        refine bodyPost_ret (v := ?rv94) ?rh94 rfl ?rp94
        case rh94 => (simp only [results, show Tryd.f23.results = #[.cell 6 79, .tmp 7] from rfl]; go_simp; rfl)
        refine ⟨(by (try unfold Ov); exact ovB O4.out), ?_⟩
        rw [if_neg (by decide)]
        rfl
      · have ht : xs.length = ct := ht
        have j1 : ((xs.length : Int) != (ct : Int)) = false := by unfold bne; rw [beq_iff_eq.2 (by omega)]; rfl
        have j2 : (xs.length != ct) = false := by unfold bne; rw [beq_iff_eq.2 ht]; rfl
        have j3 : ((xs.length : Int) == (ct : Int)) = true := beq_iff_eq.2 (by omega)
        have j4 : (xs.length == ct) = true := beq_iff_eq.2 ht
        have HCt := hid ht
        clear ht
        rcases ht2 with ht | ⟨ht, ht2⟩
        · have k1 : decide (ct ≤ pn) = true := decide_eq_true (by exact ht)
          go_enter Tryd.func23, Tryd.ntmps23
          go_wp2_with (first
            | (first | (go_at_call 27; (with_reducible refine (HLst.out _ (by (try unfold Ov); exact ovA)).mono ?_); rintro _ _ ⟨⟨e3, rfl⟩, rfl⟩) | (go_at_call 25; (with_reducible refine (HR.out _ (by (try unfold Ov); exact ovA)).mono ?_); rintro _ _ ⟨⟨e1, rfl⟩, rfl⟩))
            | (go_at_call 30; (with_reducible refine (HE.out _ (by (try unfold Ov); exact ovA)).mono ?_); rintro _ _ ⟨⟨e2, rfl⟩, rfl⟩)
            | (go_at_call 39
               refine gen_c ?_
               intro W4 hW4
               obtain ⟨pl, hpl⟩ : ∃ p, p = w.heap.size + 1 + 1 + e1.heap.size + e2.heap.size + 1 + 1 + e3.heap.size := ⟨_, rfl⟩
               have P5 : Hid (Blk W4 w.heap.size [.int .u8 kd, .int .u32 ep, .int .u32 (id : Nat), .int .u32 (pc : Nat), .int .u32 (pb : Nat), .int .u32 (pn : Nat), .int .u32 (ct : Nat), .bool cl, .int .u64 sm, .slice fa (pack lf).length fcap, .int .i64 ((lf.length : Nat))] 46) := hid (by rw [hW4]; repeat (first | exact Blk.new' (by simp; done) | with_reducible refine Blk.on ?_ _ | with_reducible refine Blk.alloc ?_ _ | with_reducible refine Blk.drew ?_))
               have P6 : Hid (Blk W4 (w.heap.size + 1) [.slice none 0 0, .int .i64 0, .slice none 0 0, .int .i64 0, .int .i64 0, .int .i64 0, .bool false, .int .u64 0, .int .u8 0, .int .u8 0, .bool false] 79) := hid (by rw [hW4]; repeat (first | exact Blk.new' (by simp; done) | with_reducible refine Blk.on ?_ _ | with_reducible refine Blk.alloc ?_ _ | with_reducible refine Blk.drew ?_))
               have O4 : Hid (∃ e, W4 = over w e) := hid (by rw [hW4]; exact (by (try unfold Ov); exact ovA))
               have S12 : Hid (Sl 2 Br.cs W4 (some ⟨pl, 0, none⟩) 2 [⟨a0, c0, pack l0, (l0.length : Nat)⟩, ⟨fa, fcap, pack lf, (lf.length : Nat)⟩]) := hid (by rw [hW4, hpl]; exact (by (repeat with_reducible refine Sl.drew ?_); refine Sl.lit_as (xs :=  [(⟨a0, c0, pack l0, (l0.length : Nat)⟩ : Br), ⟨fa, fcap, pack lf, (lf.length : Nat)⟩]) Br.cs_len ?_ ?_ ?_ ?_ <;> first | rfl | (simp; done) | (simp [maxLen]; done) | (simp; omega)))
               have S10 : Hid (SlB W4 a0 c0 (pack l0)) := hid (by rw [hW4]; exact SB.out _ (by (try unfold Ov); exact ovA))
               have SF := hid (Sl.ov HFi.out.s O4.out)
               rw [← hpl]
               clear hW4 hpl
               have hs3 := HS.out.ov O4.out
               have B3 := bk_ov HBk.out O4.out
               have s1 := hs3.blk.cell 1 rfl
               have s2 := hs3.blk.cell 2 rfl
               have sl := hs3.blk.lt
               have b1 := B3.blk.cell 1 rfl
               have bl := B3.blk.lt
               have p52 := P5.out.cell 5 rfl
               have p54 := P5.out.cell 6 rfl
               have p55 := P5.out.cell 7 rfl
               have p5l := P5.out.lt
               have z0 := P6.out.cell 0 rfl
               have z1 := P6.out.cell 1 rfl
               have z2 := P6.out.cell 2 rfl
               have z3 := P6.out.cell 3 rfl
               have z4 := P6.out.cell 4 rfl
               have z5 := P6.out.cell 5 rfl
               have z6 := P6.out.cell 6 rfl
               have z7 := P6.out.cell 7 rfl
               have z8 := P6.out.cell 8 rfl
               have z9 := P6.out.cell 9 rfl
               have z10 := P6.out.cell 10 rfl
               have zf : ∀ j, W4.frozen? ⟨w.heap.size + 1, j, none⟩ = false := fun j => P6.out.free j
               have zl := P6.out.lt
               have HT4 := hid (TabW.ov HT.out O4.out)
               rw [HAH.out] at s1
               rw [HSB.out] at s2
               clear hs3 B3
               (with_reducible refine (HJ.out _ _ S12.out S10.out SF.out).mono ?_)
               rintro _ _ ⟨a5, c5, rfl, ⟨e5, rfl⟩, o5⟩
               have HO5 := hid o5
               have S5 := hid (Own.slice' bcs_len o5).2
               clear o5)
            | (go_at_call 22; (with_reducible refine (HAll.out _ _ _ (by exact tabA HT4.out) (by exact slA S5.out)).mono ?_); rintro _ _ ⟨v6, rfl, ⟨e6, rfl⟩, o6⟩; obtain ⟨a6, c6, rfl, sx6⟩ := Own.slice Sm.cs_len o6; have S6 := hid sx6; clear o6 sx6))
          refine wp_region_over (by kernel_rfl) (by kernel_rfl) ?_
          repeat (go_big_quiet_step ((fail)))
          refine wpQuiet_nil ?_
          intro _ hw'
          obtain ⟨nq, rfl⟩ := hw'
          go_wp2
          (try simp only [Exit.inBlock, Exit.then])
          refine bodyPost_ret (v := ?rv95) ?rh95 rfl ?rp95
          case rh95 => (simp only [results, show Tryd.f23.results = #[.cell 6 79, .tmp 7] from rfl]; go_simp; rfl)
          refine ⟨(by (try unfold Ov); exact ovB O4.out), ?_⟩
          rw [if_neg (by decide)]
          rfl
        · simp only at ht
          have k1 : decide (ct ≤ pn) = false := decide_eq_false (by omega)
          rcases ht2 with ht2 | ⟨ht2, hsb1, hx0, ht3⟩
          · simp only at ht2
            have k2 : decide (sz < xs.length) = true := decide_eq_true (by have := HCt.out; omega)
            have k6 : decide (sz < ct) = true := decide_eq_true (by have := HCt.out; omega)
            go_enter Tryd.func23, Tryd.ntmps23
            go_wp2_with (first
              | (first | (go_at_call 27; (with_reducible refine (HLst.out _ (by (try unfold Ov); exact ovA)).mono ?_); rintro _ _ ⟨⟨e3, rfl⟩, rfl⟩) | (go_at_call 25; (with_reducible refine (HR.out _ (by (try unfold Ov); exact ovA)).mono ?_); rintro _ _ ⟨⟨e1, rfl⟩, rfl⟩))
              | (go_at_call 30; (with_reducible refine (HE.out _ (by (try unfold Ov); exact ovA)).mono ?_); rintro _ _ ⟨⟨e2, rfl⟩, rfl⟩)
              | (go_at_call 39
                 refine gen_c ?_
                 intro W4 hW4
                 obtain ⟨pl, hpl⟩ : ∃ p, p = w.heap.size + 1 + 1 + e1.heap.size + e2.heap.size + 1 + 1 + e3.heap.size := ⟨_, rfl⟩
                 have P5 : Hid (Blk W4 w.heap.size [.int .u8 kd, .int .u32 ep, .int .u32 (id : Nat), .int .u32 (pc : Nat), .int .u32 (pb : Nat), .int .u32 (pn : Nat), .int .u32 (ct : Nat), .bool cl, .int .u64 sm, .slice fa (pack lf).length fcap, .int .i64 ((lf.length : Nat))] 46) := hid (by rw [hW4]; repeat (first | exact Blk.new' (by simp; done) | with_reducible refine Blk.on ?_ _ | with_reducible refine Blk.alloc ?_ _ | with_reducible refine Blk.drew ?_))
                 have P6 : Hid (Blk W4 (w.heap.size + 1) [.slice none 0 0, .int .i64 0, .slice none 0 0, .int .i64 0, .int .i64 0, .int .i64 0, .bool false, .int .u64 0, .int .u8 0, .int .u8 0, .bool false] 79) := hid (by rw [hW4]; repeat (first | exact Blk.new' (by simp; done) | with_reducible refine Blk.on ?_ _ | with_reducible refine Blk.alloc ?_ _ | with_reducible refine Blk.drew ?_))
                 have O4 : Hid (∃ e, W4 = over w e) := hid (by rw [hW4]; exact (by (try unfold Ov); exact ovA))
                 have S12 : Hid (Sl 2 Br.cs W4 (some ⟨pl, 0, none⟩) 2 [⟨a0, c0, pack l0, (l0.length : Nat)⟩, ⟨fa, fcap, pack lf, (lf.length : Nat)⟩]) := hid (by rw [hW4, hpl]; exact (by (repeat with_reducible refine Sl.drew ?_); refine Sl.lit_as (xs :=  [(⟨a0, c0, pack l0, (l0.length : Nat)⟩ : Br), ⟨fa, fcap, pack lf, (lf.length : Nat)⟩]) Br.cs_len ?_ ?_ ?_ ?_ <;> first | rfl | (simp; done) | (simp [maxLen]; done) | (simp; omega)))
                 have S10 : Hid (SlB W4 a0 c0 (pack l0)) := hid (by rw [hW4]; exact SB.out _ (by (try unfold Ov); exact ovA))
                 have SF := hid (Sl.ov HFi.out.s O4.out)
                 rw [← hpl]
                 clear hW4 hpl
                 have hs3 := HS.out.ov O4.out
                 have B3 := bk_ov HBk.out O4.out
                 have s1 := hs3.blk.cell 1 rfl
                 have s2 := hs3.blk.cell 2 rfl
                 have sl := hs3.blk.lt
                 have b1 := B3.blk.cell 1 rfl
                 have bl := B3.blk.lt
                 have p52 := P5.out.cell 5 rfl
                 have p54 := P5.out.cell 6 rfl
                 have p55 := P5.out.cell 7 rfl
                 have p5l := P5.out.lt
                 have z0 := P6.out.cell 0 rfl
                 have z1 := P6.out.cell 1 rfl
                 have z2 := P6.out.cell 2 rfl
                 have z3 := P6.out.cell 3 rfl
                 have z4 := P6.out.cell 4 rfl
                 have z5 := P6.out.cell 5 rfl
                 have z6 := P6.out.cell 6 rfl
                 have z7 := P6.out.cell 7 rfl
                 have z8 := P6.out.cell 8 rfl
                 have z9 := P6.out.cell 9 rfl
                 have z10 := P6.out.cell 10 rfl
                 have zf : ∀ j, W4.frozen? ⟨w.heap.size + 1, j, none⟩ = false := fun j => P6.out.free j
                 have zl := P6.out.lt
                 have HT4 := hid (TabW.ov HT.out O4.out)
                 rw [HAH.out] at s1
                 rw [HSB.out] at s2
                 clear hs3 B3
                 (with_reducible refine (HJ.out _ _ S12.out S10.out SF.out).mono ?_)
                 rintro _ _ ⟨a5, c5, rfl, ⟨e5, rfl⟩, o5⟩
                 have HO5 := hid o5
                 have S5 := hid (Own.slice' bcs_len o5).2
                 clear o5)
              | (go_at_call 22; (with_reducible refine (HAll.out _ _ _ (by exact tabA HT4.out) (by exact slA S5.out)).mono ?_); rintro _ _ ⟨v6, rfl, ⟨e6, rfl⟩, o6⟩; obtain ⟨a6, c6, rfl, sx6⟩ := Own.slice Sm.cs_len o6; have S6 := hid sx6; clear o6 sx6))
            refine wp_region_over (by kernel_rfl) (by kernel_rfl) ?_
            repeat (go_big_quiet_step ((fail)))
            refine wpQuiet_nil ?_
            intro _ hw'
            obtain ⟨nq, rfl⟩ := hw'
            go_wp2
            (try simp only [Exit.inBlock, Exit.then])
            refine bodyPost_ret (v := ?rv96) ?rh96 rfl ?rp96
            case rh96 => (simp only [results, show Tryd.f23.results = #[.cell 6 79, .tmp 7] from rfl]; go_simp; rfl)
            refine ⟨(by (try unfold Ov); exact ovB O4.out), ?_⟩
            rw [if_neg (by decide)]
            rfl
          · simp only at ht2
            have k2 : decide (sz < xs.length) = false := decide_eq_false (by have := HCt.out; omega)
            have k6 : decide (sz < ct) = false := decide_eq_false (by have := HCt.out; omega)
            rw [HSB.out] at hsb1
            rw [HAH.out] at ht3
            subst hsb1
            obtain ⟨x0t, hx0t⟩ : ∃ t, xs[0].t = t := ⟨_, rfl⟩
            rw [hx0t] at ht3
            have k5 : decide (x0t ≤ ah) = true := decide_eq_true ht3
            have HX0 := hid hx0t
            have hx1 : 0 < xs.length := hx0
            clear hx0t
            go_enter Tryd.func23, Tryd.ntmps23
            go_wp2_with (first
              | (first | (go_at_call 27; (with_reducible refine (HLst.out _ (by (try unfold Ov); exact ovA)).mono ?_); rintro _ _ ⟨⟨e3, rfl⟩, rfl⟩) | (go_at_call 25; (with_reducible refine (HR.out _ (by (try unfold Ov); exact ovA)).mono ?_); rintro _ _ ⟨⟨e1, rfl⟩, rfl⟩))
              | (go_at_call 30; (with_reducible refine (HE.out _ (by (try unfold Ov); exact ovA)).mono ?_); rintro _ _ ⟨⟨e2, rfl⟩, rfl⟩)
              | (go_at_call 39
                 refine gen_c ?_
                 intro W4 hW4
                 obtain ⟨pl, hpl⟩ : ∃ p, p = w.heap.size + 1 + 1 + e1.heap.size + e2.heap.size + 1 + 1 + e3.heap.size := ⟨_, rfl⟩
                 have P5 : Hid (Blk W4 w.heap.size [.int .u8 kd, .int .u32 ep, .int .u32 (id : Nat), .int .u32 (pc : Nat), .int .u32 (pb : Nat), .int .u32 (pn : Nat), .int .u32 (ct : Nat), .bool cl, .int .u64 sm, .slice fa (pack lf).length fcap, .int .i64 ((lf.length : Nat))] 46) := hid (by rw [hW4]; repeat (first | exact Blk.new' (by simp; done) | with_reducible refine Blk.on ?_ _ | with_reducible refine Blk.alloc ?_ _ | with_reducible refine Blk.drew ?_))
                 have P6 : Hid (Blk W4 (w.heap.size + 1) [.slice none 0 0, .int .i64 0, .slice none 0 0, .int .i64 0, .int .i64 0, .int .i64 0, .bool false, .int .u64 0, .int .u8 0, .int .u8 0, .bool false] 79) := hid (by rw [hW4]; repeat (first | exact Blk.new' (by simp; done) | with_reducible refine Blk.on ?_ _ | with_reducible refine Blk.alloc ?_ _ | with_reducible refine Blk.drew ?_))
                 have O4 : Hid (∃ e, W4 = over w e) := hid (by rw [hW4]; exact (by (try unfold Ov); exact ovA))
                 have S12 : Hid (Sl 2 Br.cs W4 (some ⟨pl, 0, none⟩) 2 [⟨a0, c0, pack l0, (l0.length : Nat)⟩, ⟨fa, fcap, pack lf, (lf.length : Nat)⟩]) := hid (by rw [hW4, hpl]; exact (by (repeat with_reducible refine Sl.drew ?_); refine Sl.lit_as (xs :=  [(⟨a0, c0, pack l0, (l0.length : Nat)⟩ : Br), ⟨fa, fcap, pack lf, (lf.length : Nat)⟩]) Br.cs_len ?_ ?_ ?_ ?_ <;> first | rfl | (simp; done) | (simp [maxLen]; done) | (simp; omega)))
                 have S10 : Hid (SlB W4 a0 c0 (pack l0)) := hid (by rw [hW4]; exact SB.out _ (by (try unfold Ov); exact ovA))
                 have SF := hid (Sl.ov HFi.out.s O4.out)
                 rw [← hpl]
                 clear hW4 hpl
                 have hs3 := HS.out.ov O4.out
                 have B3 := bk_ov HBk.out O4.out
                 have s1 := hs3.blk.cell 1 rfl
                 have s2 := hs3.blk.cell 2 rfl
                 have sl := hs3.blk.lt
                 have b1 := B3.blk.cell 1 rfl
                 have bl := B3.blk.lt
                 have p52 := P5.out.cell 5 rfl
                 have p54 := P5.out.cell 6 rfl
                 have p55 := P5.out.cell 7 rfl
                 have p5l := P5.out.lt
                 have z0 := P6.out.cell 0 rfl
                 have z1 := P6.out.cell 1 rfl
                 have z2 := P6.out.cell 2 rfl
                 have z3 := P6.out.cell 3 rfl
                 have z4 := P6.out.cell 4 rfl
                 have z5 := P6.out.cell 5 rfl
                 have z6 := P6.out.cell 6 rfl
                 have z7 := P6.out.cell 7 rfl
                 have z8 := P6.out.cell 8 rfl
                 have z9 := P6.out.cell 9 rfl
                 have z10 := P6.out.cell 10 rfl
                 have zf : ∀ j, W4.frozen? ⟨w.heap.size + 1, j, none⟩ = false := fun j => P6.out.free j
                 have zl := P6.out.lt
                 have HT4 := hid (TabW.ov HT.out O4.out)
                 rw [HAH.out] at s1
                 rw [HSB.out] at s2
                 clear hs3 B3
                 (with_reducible refine (HJ.out _ _ S12.out S10.out SF.out).mono ?_)
                 rintro _ _ ⟨a5, c5, rfl, ⟨e5, rfl⟩, o5⟩
                 have HO5 := hid o5
                 have S5 := hid (Own.slice' bcs_len o5).2
                 clear o5)
              | (go_at_call 22; (with_reducible refine (HAll.out _ _ _ (by exact tabA HT4.out) (by exact slA S5.out)).mono ?_); rintro _ _ ⟨v6, rfl, ⟨e6, rfl⟩, o6⟩; obtain ⟨a6, c6, rfl, sx6⟩ := Own.slice Sm.cs_len o6; obtain ⟨b6, o6b, rfl, hb6, t60, _⟩ := SlM.at_ sx6 hx1; replace t60 := t60.trans (congrArg (fun z => some (Value.int .i64 z)) HX0.out); simp only [Nat.zero_mul, Nat.add_zero] at t60; simp at hb6; have S6 := hid sx6; clear o6 sx6))
            refine wp_region_over (by kernel_rfl) (by kernel_rfl) ?_
            repeat (go_big_quiet_step ((fail)))
            refine wpQuiet_nil ?_
            intro _ hw'
            obtain ⟨nq, rfl⟩ := hw'
            go_wp2
            (try simp only [Exit.inBlock, Exit.then])
            refine bodyPost_ret (v := ?rv97) ?rh97 rfl ?rp97
            case rh97 => (simp only [results, show Tryd.f23.results = #[.cell 6 79, .tmp 7] from rfl]; go_simp; rfl)
            refine ⟨(by (try unfold Ov); exact ovB O4.out), ?_⟩
            rw [if_neg (by decide)]
            rfl
    · obtain ⟨kq, hkn⟩ : ∃ q, knowC En.zero cs = q := ⟨_, rfl⟩
      obtain ⟨n0, n1, n2, ⟨n3, n4, n5, n6⟩⟩ := kq
      have HAll : Hid (∀ A C W, TabW W → SlB W A C (pack LL) → Calls Tryd.prog 22 #[bv A (pack LL).length C LL.length] W (fun en w' => ∃ v, en = .returned (.tuple #[v, .agg #[.int .i64 n0, .int .i64 n1, .int .i64 n2, .bool n3, .int .u64 (n4 : Nat), .int .u8 (n5 : Nat), .int .u8 (n6 : Nat)], .int .u16 0]) ∧ (∃ x, w' = over W x) ∧ OwnM W.heap.size w' v cs)) := hid (fun A C W h1 h2 => by
        have h := HA0.out A C W h1 h2
        rw [if_pos rfl, if_pos rfl, hkn] at h
        exact h)
      obtain ⟨us, hus⟩ : ∃ us, endsK cs cs.length = us := ⟨_, rfl⟩
      have HEnds : Hid (∀ A C W, TabW W → SlB W A C (pack LL) → Calls Tryd.prog 40 #[bv A (pack LL).length C LL.length] W (fun en w' => ∃ v, en = .returned (.tuple #[v, .int .u16 0]) ∧ (∃ x, w' = over W x) ∧ OwnI W.heap.size w' v us)) := hid (fun A C W h1 h2 => by
        have h := HE0.out A C W h1 h2
        rw [if_pos rfl, hus] at h
        exact h)
      have HKN := hid hkn
      have HUS := hid hus
      have h1 : cs.length = ct := h1
      have h2 : pn < ct := h2
      simp only at h3
      have j1 : ((cs.length : Int) != (ct : Int)) = false := by unfold bne; rw [beq_iff_eq.2 (by omega)]; rfl
      have j2 : (cs.length != ct) = false := by unfold bne; rw [beq_iff_eq.2 h1]; rfl
      have j3 : ((cs.length : Int) == (ct : Int)) = true := beq_iff_eq.2 (by omega)
      have j4 : (cs.length == ct) = true := beq_iff_eq.2 h1
      have HCt := hid h1
      clear h1
      have k1 : decide (ct ≤ pn) = false := decide_eq_false (by omega)
      have h3 : ct ≤ sz := h3
      have k2 : decide (sz < cs.length) = false := decide_eq_false (by have := HCt.out; omega)
      have k6 : decide (sz < ct) = false := decide_eq_false (by have := HCt.out; omega)
      rw [HSB.out] at h4
      rw [HAH.out] at h4
      have H4 := hid h4
      clear hkn hus h4 HA0 HE0
      cases sb with
      | false =>
        go_enter Tryd.func23, Tryd.ntmps23
        go_wp2_with (first
          | (first | (go_at_call 27; (with_reducible refine (HLst.out _ (by (try unfold Ov); exact ovA)).mono ?_); rintro _ _ ⟨⟨e3, rfl⟩, rfl⟩) | (go_at_call 25; (with_reducible refine (HR.out _ (by (try unfold Ov); exact ovA)).mono ?_); rintro _ _ ⟨⟨e1, rfl⟩, rfl⟩))
          | (go_at_call 30; (with_reducible refine (HE.out _ (by (try unfold Ov); exact ovA)).mono ?_); rintro _ _ ⟨⟨e2, rfl⟩, rfl⟩)
          | (go_at_call 39
             refine gen_c ?_
             intro W4 hW4
             obtain ⟨pl, hpl⟩ : ∃ p, p = w.heap.size + 1 + 1 + e1.heap.size + e2.heap.size + 1 + 1 + e3.heap.size := ⟨_, rfl⟩
             have P5 : Hid (Blk W4 w.heap.size [.int .u8 kd, .int .u32 ep, .int .u32 (id : Nat), .int .u32 (pc : Nat), .int .u32 (pb : Nat), .int .u32 (pn : Nat), .int .u32 (ct : Nat), .bool cl, .int .u64 sm, .slice fa (pack lf).length fcap, .int .i64 ((lf.length : Nat))] 46) := hid (by rw [hW4]; repeat (first | exact Blk.new' (by simp; done) | with_reducible refine Blk.on ?_ _ | with_reducible refine Blk.alloc ?_ _ | with_reducible refine Blk.drew ?_))
             have P6 : Hid (Blk W4 (w.heap.size + 1) [.slice none 0 0, .int .i64 0, .slice none 0 0, .int .i64 0, .int .i64 0, .int .i64 0, .bool false, .int .u64 0, .int .u8 0, .int .u8 0, .bool false] 79) := hid (by rw [hW4]; repeat (first | exact Blk.new' (by simp; done) | with_reducible refine Blk.on ?_ _ | with_reducible refine Blk.alloc ?_ _ | with_reducible refine Blk.drew ?_))
             have O4 : Hid (∃ e, W4 = over w e) := hid (by rw [hW4]; exact (by (try unfold Ov); exact ovA))
             have S12 : Hid (Sl 2 Br.cs W4 (some ⟨pl, 0, none⟩) 2 [⟨a0, c0, pack l0, (l0.length : Nat)⟩, ⟨fa, fcap, pack lf, (lf.length : Nat)⟩]) := hid (by rw [hW4, hpl]; exact (by (repeat with_reducible refine Sl.drew ?_); refine Sl.lit_as (xs :=  [(⟨a0, c0, pack l0, (l0.length : Nat)⟩ : Br), ⟨fa, fcap, pack lf, (lf.length : Nat)⟩]) Br.cs_len ?_ ?_ ?_ ?_ <;> first | rfl | (simp; done) | (simp [maxLen]; done) | (simp; omega)))
             have S10 : Hid (SlB W4 a0 c0 (pack l0)) := hid (by rw [hW4]; exact SB.out _ (by (try unfold Ov); exact ovA))
             have SF := hid (Sl.ov HFi.out.s O4.out)
             rw [← hpl]
             clear hW4 hpl
             have hs3 := HS.out.ov O4.out
             have B3 := bk_ov HBk.out O4.out
             have s1 := hs3.blk.cell 1 rfl
             have s2 := hs3.blk.cell 2 rfl
             have sl := hs3.blk.lt
             have b1 := B3.blk.cell 1 rfl
             have bl := B3.blk.lt
             have p52 := P5.out.cell 5 rfl
             have p54 := P5.out.cell 6 rfl
             have p55 := P5.out.cell 7 rfl
             have p5l := P5.out.lt
             have z0 := P6.out.cell 0 rfl
             have z1 := P6.out.cell 1 rfl
             have z2 := P6.out.cell 2 rfl
             have z3 := P6.out.cell 3 rfl
             have z4 := P6.out.cell 4 rfl
             have z5 := P6.out.cell 5 rfl
             have z6 := P6.out.cell 6 rfl
             have z7 := P6.out.cell 7 rfl
             have z8 := P6.out.cell 8 rfl
             have z9 := P6.out.cell 9 rfl
             have z10 := P6.out.cell 10 rfl
             have zf : ∀ j, W4.frozen? ⟨w.heap.size + 1, j, none⟩ = false := fun j => P6.out.free j
             have zl := P6.out.lt
             have HT4 := hid (TabW.ov HT.out O4.out)
             rw [HAH.out] at s1
             rw [HSB.out] at s2
             clear hs3 B3
             (with_reducible refine (HJ.out _ _ S12.out S10.out SF.out).mono ?_)
             rintro _ _ ⟨a5, c5, rfl, ⟨e5, rfl⟩, o5⟩
             have HO5 := hid o5
             have S5 := hid (Own.slice' bcs_len o5).2
             clear o5)
          | (go_at_call 22; (with_reducible refine (HAll.out _ _ _ (by exact tabA HT4.out) (by exact slA S5.out)).mono ?_); rintro _ _ ⟨v6, rfl, ⟨e6, rfl⟩, o6⟩; obtain ⟨a6, c6, rfl, sx6⟩ := Own.slice Sm.cs_len o6; have S6 := hid sx6; clear o6 sx6))
        refine wp_region_over (by kernel_rfl) (by kernel_rfl) ?_
        repeat (go_big_quiet_step ((fail)))
        refine wpQuiet_nil ?_
        intro _ hw'
        obtain ⟨nq, rfl⟩ := hw'
        go_wp2_with (go_at_call 40; (with_reducible refine (HEnds.out _ _ _ (by exact tabA HT4.out) (by exact slA S5.out)).mono ?_); rintro _ _ ⟨v7, rfl, ⟨e7, rfl⟩, o7⟩; obtain ⟨a7, c7, rfl, sx7⟩ := Own.slice ics_len o7; have HO7 := hid o7; clear o7 sx7)
        refine gen_w ?_
        intro Wf hWf
        have hul : us.length ≤ 1000000 := by rw [← HUS.out, endsK_len]; have := HCt.out; omega
        have D6 : Hid (Blk Wf (w.heap.size + 1) [.slice a5 (pack LL).length c5, .int .i64 (LL.length : Nat), .slice a7 us.length c7, .int .i64 n0, .int .i64 n1, .int .i64 n2, .bool n3, .int .u64 (n4 : Nat), .int .u8 (n5 : Nat), .int .u8 (n6 : Nat), .bool cl] 79) := hid (by rw [hWf]; exact Blk.on (Blk.on (Blk.alloc (Blk.on (Blk.alloc (Blk.on (Blk.full P6.out [.slice a5 (pack LL).length c5, .int .i64 (LL.length : Nat), .slice a7 us.length c7, .int .i64 n0, .int .i64 n1, .int .i64 n2, .bool n3, .int .u64 (n4 : Nat), .int .u8 (n5 : Nat), .int .u8 (n6 : Nat), .bool cl] rfl) _) _) _) _) _) _)
        have Of : Hid (∃ e, Wf = over w e) := hid (by rw [hWf]; exact (by (try unfold Ov); exact ovB O4.out))
        have hn5 : (Value.slice a5 (pack LL).length c5).ownBlock ≠ some (w.heap.size + 1) := fun hh => by have := (Own.lt HO5.out hh).1; omega
        have hn7 : (Value.slice a7 us.length c7).ownBlock ≠ some (w.heap.size + 1) := fun hh => by have := (Own.lt HO7.out hh).1; simp at this; omega
        have hw5 : w.heap.size ≤ W4.heap.size := by omega
        have F5 : Hid (OwnB W4.heap.size Wf (.slice a5 (pack LL).length c5) (pack LL)) := hid (by
          have c : Chg [w.heap.size + 1] (over W4 e5) Wf := by rw [hWf]; exact (by exact chA)
          exact Own.chg HO5.out c (fun g hg hm => by simp at hm; subst hm; exact hn5 hg))
        have F7 : Hid (OwnI W4.heap.size Wf (.slice a7 us.length c7) us) := hid (by
          have h := HO7.out
          rw [hWf]
          exact Own.mono (Own.over_swap h (by simp) (by simp)) (by simp; omega))
        clear hWf
        have d0 := D6.out.cell 0 rfl
        have d1 := D6.out.cell 1 rfl
        have d2 := D6.out.cell 2 rfl
        have d3 := D6.out.cell 3 rfl
        have d4 := D6.out.cell 4 rfl
        have d5 := D6.out.cell 5 rfl
        have d6 := D6.out.cell 6 rfl
        have d7 := D6.out.cell 7 rfl
        have d8 := D6.out.cell 8 rfl
        have d9 := D6.out.cell 9 rfl
        have d10 := D6.out.cell 10 rfl
        (try simp only [Exit.inBlock, Exit.then])
        refine bodyPost_ret (v := ?rv98) ?rh98 rfl ?rp98
        case rh98 => (simp only [results, show Tryd.f23.results = #[.cell 6 79, .tmp 7] from rfl]; go_simp; rfl)
        refine ⟨Of.out, ?_⟩
        rw [if_pos rfl]
        refine ⟨⟨a5, c5, LL, a7, c7, us, ⟨n0, n1, n2, ⟨n3, n4, n5, n6⟩⟩, cl⟩, rfl, ⟨(Own.slice' bcs_len F5.out).2, (Own.slice' ics_len F7.out).2, fun k hk => ?_⟩, ⟨HRun.out.whole.symm, HUS.out.symm, HKN.out.symm, rfl⟩⟩
        rcases List.mem_append.1 hk with hk | hk
        · have := Own.lt F5.out (blk_own hk); omega
        · have := Own.lt F7.out (blk_own hk); omega
      | true =>
        have hx1 : 0 < cs.length := by have := HCt.out; omega
        have hx2 := H4.out rfl hx1
        obtain ⟨x0t, hx0t⟩ : ∃ t, cs[0].t = t := ⟨_, rfl⟩
        rw [hx0t] at hx2
        have k5 : decide (x0t ≤ ah) = false := decide_eq_false (by omega)
        have HX0 := hid hx0t
        clear hx0t
        go_enter Tryd.func23, Tryd.ntmps23
        go_wp2_with (first
          | (first | (go_at_call 27; (with_reducible refine (HLst.out _ (by (try unfold Ov); exact ovA)).mono ?_); rintro _ _ ⟨⟨e3, rfl⟩, rfl⟩) | (go_at_call 25; (with_reducible refine (HR.out _ (by (try unfold Ov); exact ovA)).mono ?_); rintro _ _ ⟨⟨e1, rfl⟩, rfl⟩))
          | (go_at_call 30; (with_reducible refine (HE.out _ (by (try unfold Ov); exact ovA)).mono ?_); rintro _ _ ⟨⟨e2, rfl⟩, rfl⟩)
          | (go_at_call 39
             refine gen_c ?_
             intro W4 hW4
             obtain ⟨pl, hpl⟩ : ∃ p, p = w.heap.size + 1 + 1 + e1.heap.size + e2.heap.size + 1 + 1 + e3.heap.size := ⟨_, rfl⟩
             have P5 : Hid (Blk W4 w.heap.size [.int .u8 kd, .int .u32 ep, .int .u32 (id : Nat), .int .u32 (pc : Nat), .int .u32 (pb : Nat), .int .u32 (pn : Nat), .int .u32 (ct : Nat), .bool cl, .int .u64 sm, .slice fa (pack lf).length fcap, .int .i64 ((lf.length : Nat))] 46) := hid (by rw [hW4]; repeat (first | exact Blk.new' (by simp; done) | with_reducible refine Blk.on ?_ _ | with_reducible refine Blk.alloc ?_ _ | with_reducible refine Blk.drew ?_))
             have P6 : Hid (Blk W4 (w.heap.size + 1) [.slice none 0 0, .int .i64 0, .slice none 0 0, .int .i64 0, .int .i64 0, .int .i64 0, .bool false, .int .u64 0, .int .u8 0, .int .u8 0, .bool false] 79) := hid (by rw [hW4]; repeat (first | exact Blk.new' (by simp; done) | with_reducible refine Blk.on ?_ _ | with_reducible refine Blk.alloc ?_ _ | with_reducible refine Blk.drew ?_))
             have O4 : Hid (∃ e, W4 = over w e) := hid (by rw [hW4]; exact (by (try unfold Ov); exact ovA))
             have S12 : Hid (Sl 2 Br.cs W4 (some ⟨pl, 0, none⟩) 2 [⟨a0, c0, pack l0, (l0.length : Nat)⟩, ⟨fa, fcap, pack lf, (lf.length : Nat)⟩]) := hid (by rw [hW4, hpl]; exact (by (repeat with_reducible refine Sl.drew ?_); refine Sl.lit_as (xs :=  [(⟨a0, c0, pack l0, (l0.length : Nat)⟩ : Br), ⟨fa, fcap, pack lf, (lf.length : Nat)⟩]) Br.cs_len ?_ ?_ ?_ ?_ <;> first | rfl | (simp; done) | (simp [maxLen]; done) | (simp; omega)))
             have S10 : Hid (SlB W4 a0 c0 (pack l0)) := hid (by rw [hW4]; exact SB.out _ (by (try unfold Ov); exact ovA))
             have SF := hid (Sl.ov HFi.out.s O4.out)
             rw [← hpl]
             clear hW4 hpl
             have hs3 := HS.out.ov O4.out
             have B3 := bk_ov HBk.out O4.out
             have s1 := hs3.blk.cell 1 rfl
             have s2 := hs3.blk.cell 2 rfl
             have sl := hs3.blk.lt
             have b1 := B3.blk.cell 1 rfl
             have bl := B3.blk.lt
             have p52 := P5.out.cell 5 rfl
             have p54 := P5.out.cell 6 rfl
             have p55 := P5.out.cell 7 rfl
             have p5l := P5.out.lt
             have z0 := P6.out.cell 0 rfl
             have z1 := P6.out.cell 1 rfl
             have z2 := P6.out.cell 2 rfl
             have z3 := P6.out.cell 3 rfl
             have z4 := P6.out.cell 4 rfl
             have z5 := P6.out.cell 5 rfl
             have z6 := P6.out.cell 6 rfl
             have z7 := P6.out.cell 7 rfl
             have z8 := P6.out.cell 8 rfl
             have z9 := P6.out.cell 9 rfl
             have z10 := P6.out.cell 10 rfl
             have zf : ∀ j, W4.frozen? ⟨w.heap.size + 1, j, none⟩ = false := fun j => P6.out.free j
             have zl := P6.out.lt
             have HT4 := hid (TabW.ov HT.out O4.out)
             rw [HAH.out] at s1
             rw [HSB.out] at s2
             clear hs3 B3
             (with_reducible refine (HJ.out _ _ S12.out S10.out SF.out).mono ?_)
             rintro _ _ ⟨a5, c5, rfl, ⟨e5, rfl⟩, o5⟩
             have HO5 := hid o5
             have S5 := hid (Own.slice' bcs_len o5).2
             clear o5)
          | (go_at_call 22; (with_reducible refine (HAll.out _ _ _ (by exact tabA HT4.out) (by exact slA S5.out)).mono ?_); rintro _ _ ⟨v6, rfl, ⟨e6, rfl⟩, o6⟩; obtain ⟨a6, c6, rfl, sx6⟩ := Own.slice Sm.cs_len o6; obtain ⟨b6, o6b, rfl, hb6, t60, _⟩ := SlM.at_ sx6 hx1; replace t60 := t60.trans (congrArg (fun z => some (Value.int .i64 z)) HX0.out); simp only [Nat.zero_mul, Nat.add_zero] at t60; simp at hb6; have S6 := hid sx6; clear o6 sx6))
        refine wp_region_over (by kernel_rfl) (by kernel_rfl) ?_
        repeat (go_big_quiet_step ((fail)))
        refine wpQuiet_nil ?_
        intro _ hw'
        obtain ⟨nq, rfl⟩ := hw'
        go_wp2_with (go_at_call 40; (with_reducible refine (HEnds.out _ _ _ (by exact tabA HT4.out) (by exact slA S5.out)).mono ?_); rintro _ _ ⟨v7, rfl, ⟨e7, rfl⟩, o7⟩; obtain ⟨a7, c7, rfl, sx7⟩ := Own.slice ics_len o7; have HO7 := hid o7; clear o7 sx7)
        refine gen_w ?_
        intro Wf hWf
        have hul : us.length ≤ 1000000 := by rw [← HUS.out, endsK_len]; have := HCt.out; omega
        have D6 : Hid (Blk Wf (w.heap.size + 1) [.slice a5 (pack LL).length c5, .int .i64 (LL.length : Nat), .slice a7 us.length c7, .int .i64 n0, .int .i64 n1, .int .i64 n2, .bool n3, .int .u64 (n4 : Nat), .int .u8 (n5 : Nat), .int .u8 (n6 : Nat), .bool cl] 79) := hid (by rw [hWf]; exact Blk.on (Blk.on (Blk.alloc (Blk.on (Blk.alloc (Blk.on (Blk.full P6.out [.slice a5 (pack LL).length c5, .int .i64 (LL.length : Nat), .slice a7 us.length c7, .int .i64 n0, .int .i64 n1, .int .i64 n2, .bool n3, .int .u64 (n4 : Nat), .int .u8 (n5 : Nat), .int .u8 (n6 : Nat), .bool cl] rfl) _) _) _) _) _) _)
        have Of : Hid (∃ e, Wf = over w e) := hid (by rw [hWf]; exact (by (try unfold Ov); exact ovB O4.out))
        have hn5 : (Value.slice a5 (pack LL).length c5).ownBlock ≠ some (w.heap.size + 1) := fun hh => by have := (Own.lt HO5.out hh).1; omega
        have hn7 : (Value.slice a7 us.length c7).ownBlock ≠ some (w.heap.size + 1) := fun hh => by have := (Own.lt HO7.out hh).1; simp at this; omega
        have hw5 : w.heap.size ≤ W4.heap.size := by omega
        have F5 : Hid (OwnB W4.heap.size Wf (.slice a5 (pack LL).length c5) (pack LL)) := hid (by
          have c : Chg [w.heap.size + 1] (over W4 e5) Wf := by rw [hWf]; exact (by exact chA)
          exact Own.chg HO5.out c (fun g hg hm => by simp at hm; subst hm; exact hn5 hg))
        have F7 : Hid (OwnI W4.heap.size Wf (.slice a7 us.length c7) us) := hid (by
          have h := HO7.out
          rw [hWf]
          exact Own.mono (Own.over_swap h (by simp) (by simp)) (by simp; omega))
        clear hWf
        have d0 := D6.out.cell 0 rfl
        have d1 := D6.out.cell 1 rfl
        have d2 := D6.out.cell 2 rfl
        have d3 := D6.out.cell 3 rfl
        have d4 := D6.out.cell 4 rfl
        have d5 := D6.out.cell 5 rfl
        have d6 := D6.out.cell 6 rfl
        have d7 := D6.out.cell 7 rfl
        have d8 := D6.out.cell 8 rfl
        have d9 := D6.out.cell 9 rfl
        have d10 := D6.out.cell 10 rfl
        (try simp only [Exit.inBlock, Exit.then])
        refine bodyPost_ret (v := ?rv99) ?rh99 rfl ?rp99
        case rh99 => (simp only [results, show Tryd.f23.results = #[.cell 6 79, .tmp 7] from rfl]; go_simp; rfl)
        refine ⟨Of.out, ?_⟩
        rw [if_pos rfl]
        refine ⟨⟨a5, c5, LL, a7, c7, us, ⟨n0, n1, n2, ⟨n3, n4, n5, n6⟩⟩, cl⟩, rfl, ⟨(Own.slice' bcs_len F5.out).2, (Own.slice' ics_len F7.out).2, fun k hk => ?_⟩, ⟨HRun.out.whole.symm, HUS.out.symm, HKN.out.symm, rfl⟩⟩
        rcases List.mem_append.1 hk with hk | hk
        · have := Own.lt F5.out (blk_own hk); omega
        · have := Own.lt F7.out (blk_own hk); omega
end Go.Proofs.YtojkoijdndinoaaDoor
