/- Walks: BookFollows. -/
import Derived.Test.YtlmfcghlbingjaaDoorHG
namespace Go.Proofs.YtlmfcghlbingjaaDoor
set_option linter.unusedVariables false
set_option linter.unusedSimpArgs false
open Go.RowKit
attribute [local go_sem] over_drew chg_drew
attribute [local go_sem high] place_eql place_neq

set_option maxRecDepth 100000 in
set_option maxHeartbeats 8000000 in
theorem bookFollows_any (size : Int) (hz : -9223372036854775808 ≤ size ∧ size ≤ 9223372036854775807) (xs : List Opr) (hx : ∀ o ∈ xs, o.wf) (a : Option Addr) (cap : Nat) (cuts : List Nat) (hcu : ∀ x ∈ cuts, x < 65536) (ca : Option Addr) (cc : Nat) (w : World) (hT : TabW w) (hs : SlO w a cap xs) (hcs : SlU w ca cc cuts) :
    Calls Tryd.prog 5 #[.int .i64 size, .slice a xs.length cap, .slice ca cuts.length cc] w (Ret w (.bool true)) := by
  have HHv := hid (fun W (hW : SlO W a cap xs) => heavy_any xs a cap W hW)
  have HKn := hid (fun W (hW : TabW W) => known_any W hW)
  obtain ⟨H, hH⟩ : ∃ H, heavyB xs = H := ⟨_, rfl⟩
  rw [hH] at HHv
  have hmax := len_max hcs
  cases H with
  | true =>
    go_enter Tryd.func5, Tryd.ntmps5
    go_wp2_with (first | (go_at_call 8; (with_reducible refine (HHv.out _ (by exact slA hs)).mono ?_); rintro _ _ ⟨⟨e1, rfl⟩, rfl⟩) | (go_at_call 9; (with_reducible refine (HKn.out _ (by exact tabA hT)).mono ?_); rintro _ _ ⟨⟨e2, rfl⟩, rfl⟩))
    go_ret
    exact ⟨(by (try unfold Ov); exact ovA), rfl⟩
  | false =>
    by_cases hc80 : 80 < cuts.length
    · have hd : decide (80 < cuts.length) = true := decide_eq_true hc80
      go_enter Tryd.func5, Tryd.ntmps5
      go_wp2_with (first | (go_at_call 8; (with_reducible refine (HHv.out _ (by exact slA hs)).mono ?_); rintro _ _ ⟨⟨e1, rfl⟩, rfl⟩) | (go_at_call 9; (with_reducible refine (HKn.out _ (by exact tabA hT)).mono ?_); rintro _ _ ⟨⟨e2, rfl⟩, rfl⟩))
      go_ret
      exact ⟨(by (try unfold Ov); exact ovA), rfl⟩
    have hd80 : decide (80 < cuts.length) = false := decide_eq_false hc80
    have hl := heavy_len hH
    have HLay := hid (fun W (h1 : TabW W) (h2 : SlO W a cap xs) => layB_any size hz xs hx hl a cap W h1 h2)
    have hsz := lsz_ok size
    obtain ⟨sz, hsz0⟩ : ∃ sz, lsz size = sz := ⟨_, rfl⟩
    rw [hsz0] at HLay hsz
    have hol : (opsL xs).length ≤ 60 := by simp [opsL]; exact hl
    obtain ⟨ops, hops⟩ : ∃ ops, opsL xs = ops := ⟨_, rfl⟩
    rw [hops] at HLay hol
    have HNew : Hid (∀ W, Calls Tryd.prog 16 #[.int .i64 64, .int .i64 24] W (NewPost W 64 24)) := hid (fun W => new_any 64 24 (by omega) (by omega) W)
    have hTw := hT
    clear hx hz hH hops hsz0
    go_enter Tryd.func5, Tryd.ntmps5
    go_wp2_with (first
      | (go_at_call 8; (with_reducible refine (HHv.out _ (by exact slA hs)).mono ?_); rintro _ _ ⟨⟨e1, rfl⟩, rfl⟩)
      | (go_at_call 9; (with_reducible refine (HKn.out _ (by exact tabA hT)).mono ?_); rintro _ _ ⟨⟨e2, rfl⟩, rfl⟩)
      | (go_at_call 10
         (with_reducible refine (HLay.out _ (by exact tabA hT) (by exact slA hs)).mono ?_)
         rintro _ W1 ⟨b, mb, L, al, cl, rs, rfl, ⟨e1, hW1⟩, hb, he, hsl, hrow, hmap⟩
         have O1 : Hid (∃ e, W1 = over w e) := hid (by rw [hW1]; exact (by (try unfold Ov); exact ovA))
         have hLd := laid_of hsz.1 hol hb he hmap
         have HL := hid hLd
         have HSL := hid hsl
         have HROW := hid hrow
         have hrl : rs.length ≤ 60 := by rw [hLd.len]; exact hLd.I.len
         have HT1 := hid (TabW.ov hTw O1.out)
         clear hW1 hb he hmap hLd hsl hrow)
      | (go_at_call 16
         (with_reducible refine (HNew.out _).mono ?_)
         rintro _ W2 ⟨b2, mb2, rfl, hov2, hb2⟩
         have O2 : Hid (∃ e, W2 = over W1 e) := hid hov2
         have HB2 := hid hb2
         clear hov2 hb2))
    go_loopw [10, 11, 12, 13, 14, 15, 16, 17, 18, 19, 20, 21, 22, 23, 24] (fun kv i _ _ _ _ _ _ _ _ _ _ _ _ _ wr => ∃ (k kk : Nat) (L' : List Se), k ≤ rs.length ∧ i = .int .i64 (k : Nat) ∧ kv = .int .i64 (kk : Nat) ∧ kk ≤ 61 * k ∧ FolB W1 wr b2 mb2 L' (layS sz ops) k []) (fun _ i _ _ _ _ _ _ _ _ _ _ _ _ _ _ => rs.length - (intOf i).toNat)
    case atStart => exact ⟨0, 0, [], Nat.zero_le _, rfl, rfl, by omega, HB2.out, O2.out, by simp⟩
    case round =>
      obtain ⟨k, kk, L', hk, rfl, rfl, hkk, hFB⟩ := hrel
      have HFB := hid hFB
      have O3 := hid hFB.ov
      clear hFB
      by_cases hlt : k < rs.length
      · obtain ⟨bl, off, rfl, hbl, x0, x1⟩ := SlR.at_ HSL.out hlt
        obtain ⟨id, s, hK⟩ := HL.out.k hlt
        have hall0 := laid_all0 HL.out hlt hK
        rw [hK.nid hlt] at x0
        have hrl2 : rs[k].l.length ≤ 60 := by rw [hK.l hlt]; exact hK.all
        have HRW : Hid (SlM W1 rs[k].a rs[k].c s.all) := hid (by have h := HROW.out _ (List.getElem_mem hlt); rw [hK.l hlt] at h; exact h)
        rw [hK.l hlt] at x1
        obtain ⟨ra, hra⟩ : ∃ ra, rs[k].a = ra := ⟨_, rfl⟩
        obtain ⟨rc, hrc⟩ : ∃ rc, rs[k].c = rc := ⟨_, rfl⟩
        rw [hra, hrc] at HRW
        rw [hra, hrc] at x1
        obtain ⟨rb, ro, rfl, hrb, _⟩ := HRW.out.rec_ 0 _ (List.getElem?_eq_getElem hall0)
        have HK := hid hK
        have HX0 := hid x0
        have HX1 := hid x1
        have hcl := hK.cl
        have hall := hK.all
        obtain ⟨c0, b0, hz0⟩ := has_at hK.ok (Nat.zero_le _)
        have HZ0 := hid hz0
        have y0 : wr.cell? ⟨bl, off + k * 2, none⟩ = some (.int .u32 (id : Nat)) := by obtain ⟨e, he⟩ := O3.out; rw [he, cell_over _ _ _ _ hbl]; exact x0
        have hbr : bl < wr.heap.size := by obtain ⟨e, he⟩ := O3.out; rw [he]; simp; omega
        clear hK hz0 x0 x1 hra hrc hrl2
        go_wp2
        refine gen_w ?_
        intro W3 hW3
        have O33 : Hid (∃ e, W3 = over wr e) := hid (by rw [hW3]; exact (by (try unfold Ov); exact ovA))
        obtain ⟨p13, hp13⟩ : ∃ p, p = wr.heap.size := ⟨_, rfl⟩
        have D0 : Hid (Blk W3 p13 [.int .u32 0, .int .u32 0, .int .u32 0] 35) := hid (by rw [hW3, hp13]; exact Blk.new' rfl)
        have HNB : Hid (p13 ∉ bkB b2 mb2 L') := hid (fun hm => by have := (HFB.out.bk.blt _ hm).2; omega)
        have hp13w : W1.heap.size ≤ p13 := by obtain ⟨e, he⟩ := O3.out; rw [hp13, he]; simp
        rw [← hp13]
        clear hW3 hp13 y0 hbr
        have hfb := fin_le HK.out.ok
        obtain ⟨⟨fc, fb, fn⟩, hfin⟩ : ∃ f, s.fin = f := ⟨_, rfl⟩
        rw [hfin] at hfb
        simp only at hfb
        have HFin := hid hfin
        have HEnd : Hid (∀ W, (∃ e, W = over W1 e) → Calls Tryd.prog 12 #[.pointer (some ⟨b, 0, none⟩), .int .u32 (id : Nat)] W (Ret W (.agg #[.int .u32 (fc : Nat), .int .u32 (fb : Nat), .int .u32 (fn : Nat)]))) := hid (fun W hW => by
          have k := bend_any (bk_ov HL.out.bk hW) id (by rw [HK.out.get]; omega)
          rw [HK.out.get, hfin] at k
          exact k)
        clear hfin
        have hg0 : getS (bkOf L') id = frontS s 0 c0 0 := by
          rw [front_zero]
          refine getS_no (fun x hx he => ?_)
          rcases HFB.out.ids x hx with ⟨j, hj, hjk, h1⟩ | h1
          · obtain ⟨h2, h3, _⟩ := HL.out.at_ k hlt
            have h4 := HK.out.nid hlt
            have := (List.pairwise_iff_getElem.1 HL.out.I.ids) j k (by simpa using hj) (by simpa using h2) hjk
            simp only [List.getElem_map] at this
            rw [← h1, ← h3, h4] at this
            exact this he
          · simp at h1
        have HG0 := hid hg0
        clear hg0
        have hkS : k ≤ (layS sz ops).length := by have := HL.out.len; omega
        go_loopw [10, 14, 15, 16, 17, 18, 19, 20, 21, 22, 23, 24] (fun kv nv _ _ _ _ _ _ _ _ _ _ wx => ∃ (n kk : Nat) (p : Pl) (c : List Sm) (cb : Bool) (L' : List Se), s.has p c cb ∧ nv = .int .i64 (n : Nat) ∧ n ≤ s.rank p ∧ kv = .int .i64 (kk : Nat) ∧ kk ≤ 61 * k + n ∧ Blk wx p13 [.int .u32 (p.chunk : Nat), .int .u32 (p.bits : Nat), .int .u32 (p.count : Nat)] 35 ∧ FolB W1 wx b2 mb2 L' (layS sz ops) k [id] ∧ getS (bkOf L') id = frontS s p.chunk c p.count ∧ p13 ∉ bkB b2 mb2 L') (fun _ nv _ _ _ _ _ _ _ _ _ _ _ => 200 - (intOf nv).toNat)
        case atStart => exact ⟨0, kk, Pl.zero, c0, b0, L', HZ0.out, rfl, Nat.zero_le _, rfl, by omega, D0.out, ⟨(HFB.out.cg O33.out).bk, (HFB.out.cg O33.out).ov, fun x hx => .inl (by rcases HFB.out.ids x hx with h | h; exact h; simp at h)⟩, HG0.out, HNB.out⟩
        case round =>
          clear HFB HNB D0 O3 O33 HG0
          obtain ⟨n, kk, ⟨pc, pb, pn⟩, c, cb, L', hh, rfl, hn, rfl, hkk2, hB, hFB, hG, hNB⟩ := hrel
          have HFB := hid hFB
          have O3 := hid hFB.ov
          have D3 : Hid (Blk wr p13 [.int .u32 (pc : Nat), .int .u32 (pb : Nat), .int .u32 (pn : Nat)] 35) := hid hB
          have HH := hid hh
          have HG : Hid (getS (bkOf L') id = frontS s pc c pn) := hid hG
          have HNB := hid hNB
          have hrk := rank_le hh
          have hpl := has_le HK.out.ok hh
          simp only at hpl hB
          have v0 := hB.cell 0 rfl
          have v1 := hB.cell 1 rfl
          have v2 := hB.cell 2 rfl
          have vl := hB.lt
          clear hFB hB hh hG hNB
          by_cases hp : (⟨pc, pb, pn⟩ : Pl) = s.fin
          · have hp2 := hp
            rw [HFin.out] at hp2
            obtain ⟨hne2, hne3, hne4, hne5, hne6, hne7⟩ := pl_eq hp2
            have hfe := front_end HH.out hp
            have HSmp := hid (fun W (hW : ∃ e, W = over wr e) => samples_any (HFB.out.cg hW).bk (TabW.ov HT1.out (HFB.out.cg hW).ov) id (HG.out.trans hfe) (by omega) (by omega))
            have HSame := hid (fun A C W (h1 : SlM W A C s.all) (h2 : SlM W (some ⟨rb, ro, none⟩) rc s.all) => rcsame_any s.all s.all (by omega) A C (some ⟨rb, ro, none⟩) rc W h1 h2)
            rw [decide_eq_true rfl] at HSame
            have y1 : wr.cell? ⟨bl, off + k * 2 + 1, none⟩ = some (.slice (some ⟨rb, ro, none⟩) s.all.length rc) := by obtain ⟨e, he⟩ := O3.out; rw [he, cell_over _ _ _ _ hbl]; exact HX1.out
            have hbr : bl < wr.heap.size := by obtain ⟨e, he⟩ := O3.out; rw [he]; simp; omega
            have HRW3 := hid (Sl.ov HRW.out O3.out)
            have HN := hid hn
            clear hp hp2 hfe hn
            obtain ⟨ll, hll⟩ : ∃ l, s.all.length = l := ⟨_, rfl⟩
            rw [hll] at HSame y1
            have HLL := hid hll
            clear hll
            go_wp2
            refine M2.wp_region_mix [3] 5 (by kernel_rfl) (by kernel_rfl) (by decide) ?_
            simp only [List.take_succ_cons, List.take_zero, List.drop_succ_cons, List.drop_zero]
            with_reducible refine M2.mixL_quiet 3 (by kernel_rfl) ?_
            simp only [List.take_succ_cons, List.take_zero, List.drop_succ_cons, List.drop_zero]
            repeat (go_big_quiet_step (fail))
            with_reducible refine wpQuiet_nil ?_
            with_reducible refine M2.mixL_eff (by decide) ?_
            go_wp2_with ((go_at_call 12; (with_reducible refine (HEnd.out _ (by (try unfold Ov); exact ovB O3.out)).mono ?_); rintro _ _ ⟨⟨e4, rfl⟩, rfl⟩))
            refine M2.MixQ.mk (by (try unfold Ov); exact ovA) ?_
            with_reducible refine M2.mixL_quiet 1 (by kernel_rfl) ?_
            simp only [List.take_succ_cons, List.take_zero, List.drop_succ_cons, List.drop_zero]
            repeat (go_big_quiet_step (fail))
            with_reducible refine wpQuiet_nil ?_
            with_reducible refine M2.mixL_nil ?_
            with_reducible refine M2.mixL_nil ?_
            go_wp2
            refine M2.wp_region_mix [2, 8] 10 (by kernel_rfl) (by kernel_rfl) (by decide) ?_
            simp only [List.take_succ_cons, List.take_zero, List.drop_succ_cons, List.drop_zero]
            with_reducible refine M2.mixL_quiet 2 (by kernel_rfl) ?_
            simp only [List.take_succ_cons, List.take_zero, List.drop_succ_cons, List.drop_zero]
            repeat (go_big_quiet_step (fail))
            with_reducible refine wpQuiet_nil ?_
            with_reducible refine M2.mixL_eff (by decide) ?_
            go_wp2_with ((first | (go_at_call 18; (with_reducible refine (HSmp.out _ (by (try unfold Ov); exact ovA)).mono ?_); rintro _ _ ⟨⟨e6, rfl⟩, v6, rfl, o6⟩; obtain ⟨a6, c6, rfl, sx6⟩ := Own.slice Sm.cs_len o6; (try simp only [over_drew] at sx6); have S6 := hid sx6; (try rw [HLL.out]); clear o6 sx6) | (go_at_call 19; (with_reducible refine (HSame.out _ _ _ (by exact slA S6.out) (by exact slA HRW3.out)).mono ?_); rintro _ _ ⟨⟨e7, rfl⟩, rfl⟩)))
            refine M2.MixQ.mk (by (try unfold Ov); exact ovA) ?_
            with_reducible refine M2.mixL_quiet 5 (by kernel_rfl) ?_
            simp only [List.take_succ_cons, List.take_zero, List.drop_succ_cons, List.drop_zero]
            repeat (go_big_quiet_step (fail))
            with_reducible refine wpQuiet_nil ?_
            with_reducible refine M2.mixL_eff (by decide) ?_
            go_wp2_with ((first | (go_at_call 18; (with_reducible refine (HSmp.out _ (by (try unfold Ov); exact ovA)).mono ?_); rintro _ _ ⟨⟨e6, rfl⟩, v6, rfl, o6⟩; obtain ⟨a6, c6, rfl, sx6⟩ := Own.slice Sm.cs_len o6; (try simp only [over_drew] at sx6); have S6 := hid sx6; (try rw [HLL.out]); clear o6 sx6) | (go_at_call 19; (with_reducible refine (HSame.out _ _ _ (by exact slA S6.out) (by exact slA HRW3.out)).mono ?_); rintro _ _ ⟨⟨e7, rfl⟩, rfl⟩)))
            refine M2.MixQ.mk (by (try unfold Ov); exact ovA) ?_
            with_reducible refine M2.mixL_quiet 1 (by kernel_rfl) ?_
            simp only [List.take_succ_cons, List.take_zero, List.drop_succ_cons, List.drop_zero]
            repeat (go_big_quiet_step (fail))
            with_reducible refine wpQuiet_nil ?_
            with_reducible refine M2.mixL_nil ?_
            with_reducible refine M2.mixL_nil ?_
            go_wp2
            refine ⟨⟨k + 1, kk, L', by omega, by go_num, rfl, by have := HN.out; omega, ?_⟩, by simp [intOf]; try omega⟩
            have hz := HFB.out.cg (w' := over (over (over wr e4) e6) e7) (by (try unfold Ov); exact ovA)
            refine ⟨hz.bk, hz.ov, fun x hx => .inl ?_⟩
            rcases hz.ids x hx with ⟨j, hj, hjk, h1⟩ | h1
            · exact ⟨j, hj, by omega, h1⟩
            · obtain ⟨h2, h3, _⟩ := HL.out.at_ k hlt
              simp at h1
              exact ⟨k, h2, by omega, by rw [h1, ← h3, HK.out.nid hlt]⟩
          · have hne := hp
            rw [HFin.out] at hne
            obtain ⟨hne2, hne3, hne4, hne5, hne6, hne7⟩ := pl_ne hne
            have hrf := rank_fin HK.out.ok HH.out hp
            clear hne
            by_cases hc0 : 0 < cuts.length
            · have hkm : kk % cuts.length < cuts.length := Nat.mod_lt _ hc0
              obtain ⟨bu, ou, hca, hbu, z0⟩ := SlU.at_ hcs hkm
              have hM := hcu _ (List.getElem_mem hkm)
              obtain ⟨M, hMM⟩ : ∃ M, cuts[kk % cuts.length] = M := ⟨_, rfl⟩
              rw [hMM] at z0 hM
              have z0' : wr.cell? ⟨bu, ou + kk % cuts.length, none⟩ = some (.int .u16 (M : Nat)) := by obtain ⟨e, he⟩ := ov_tr O1.out O3.out; rw [he, cell_over _ _ _ _ hbu]; exact z0
              have hbu' : bu < wr.heap.size := by obtain ⟨e, he⟩ := ov_tr O1.out O3.out; rw [he]; simp; omega
              have hd0 : decide (0 < cuts.length) = true := decide_eq_true hc0
              have hme : (kk : Int) % (cuts.length : Int) = ((kk % cuts.length : Nat) : Int) := by omega
              subst hca
              clear hMM z0 hbu
              generalize kk % cuts.length = r at *
              have hM2 : -9223372036854775808 ≤ ((M : Nat) : Int) ∧ ((M : Nat) : Int) ≤ 9223372036854775807 := by omega
              obtain ⟨hid32, hri, hop⟩ := laid_x HL.out hlt HK.out
              obtain ⟨fk, fcl, fsm, fbi, tc, tb, tn, c2, cl2, cs, hfx, hcut⟩ := fol_x HL.out.bk hsz.2 HK.out.get hri hop HH.out (by omega) hp (M : Nat) hM2
              have HCut := hid hcut
              have HFX := hid hfx
              have hrk2 := hfx.rank
              have hrk3 := rank_le hfx.has
              have hp60 : pc ≤ 60 := by omega
              have hk60 : k ≤ 60 := by omega
              clear hcut hfx hri hop
              go_wp2
              refine M2.wp_region_mix [3] 5 (by kernel_rfl) (by kernel_rfl) (by decide) ?_
              simp only [List.take_succ_cons, List.take_zero, List.drop_succ_cons, List.drop_zero]
              with_reducible refine M2.mixL_quiet 3 (by kernel_rfl) ?_
              simp only [List.take_succ_cons, List.take_zero, List.drop_succ_cons, List.drop_zero]
              repeat (go_big_quiet_step (fail))
              with_reducible refine wpQuiet_nil ?_
              with_reducible refine M2.mixL_eff (by decide) ?_
              go_wp2_with ((go_at_call 12; (with_reducible refine (HEnd.out _ (by (try unfold Ov); exact ovB O3.out)).mono ?_); rintro _ _ ⟨⟨e4, rfl⟩, rfl⟩))
              refine M2.MixQ.mk (by (try unfold Ov); exact ovA) ?_
              with_reducible refine M2.mixL_quiet 1 (by kernel_rfl) ?_
              simp only [List.take_succ_cons, List.take_zero, List.drop_succ_cons, List.drop_zero]
              repeat (go_big_quiet_step (fail))
              with_reducible refine wpQuiet_nil ?_
              with_reducible refine M2.mixL_nil ?_
              with_reducible refine M2.mixL_nil ?_
              go_wp2_with (go_at_call 13; (with_reducible refine (HCut.out _ (by (try unfold Ov); exact ovB O3.out)).mono ?_); rintro _ _ ⟨a9, c9, rfl, ⟨e9, rfl⟩, o9⟩)
              have S9 := hid (Own.slice' (sz := 1) (cells := bcs) (fun _ => rfl) o9).2
              refine gen_c ?_
              intro W4 hW4
              obtain ⟨p17, hp17⟩ : ∃ p, p = wr.heap.size + e4.heap.size + e9.heap.size + 1 := ⟨_, rfl⟩
              have P17 : Hid (Blk W4 p17 [.int .u32 (tc : Nat), .int .u32 (tb : Nat), .int .u32 (tn : Nat)] 35) := hid (by rw [hW4, hp17]; exact Blk.new' (by simp))
              have P13 : Hid (Blk W4 p13 [.int .u32 (pc : Nat), .int .u32 (pb : Nat), .int .u32 (pn : Nat)] 35) := hid (by rw [hW4]; exact (((D3.out.on _).on _).alloc _).alloc _)
              have O4 : Hid (∃ e, W4 = over wr e) := hid (by rw [hW4]; exact (by (try unfold Ov); exact ovA))
              have hnb17 : p17 ∉ bkB b2 mb2 L' := fun hm => by have := (HFB.out.bk.blt _ hm).2; omega
              have S94 : Hid (SlB W4 a9 c9 (pack fbi)) := hid (by rw [hW4]; exact (by exact slA S9.out))
              have hp137 : p13 ≠ p17 := by omega
              rw [← hp17]
              clear hW4 hp17 S9 o9 v0 v1 v2 vl
              refine (fol_take HFB.out O4.out (TabW.ov HT1.out (ov_tr O3.out O4.out)) hkS hk60 HFX.out HG.out hid32 hcl hp60 hpl.1 hpl.2.1 S94.out).mono ?_
              rintro _ W5 ⟨rfl, L'', hFB5, hG5, hblk⟩
              have D13 := hid (hblk _ _ _ P13.out HNB.out)
              have D17 := hid (hblk _ _ _ P17.out hnb17)
              have HFB5 := hid hFB5
              have HG5 := hid hG5
              have O5 := hid hFB5.ov
              have hfr := front_all HFX.out.has
              have hff := front_fin HFX.out.has
              have hft : (frontS s tc c2 tn).cl.length ≤ 60 := by simp only [frontS, List.length_take]; omega
              have HSmp := hid (fun W (hW : ∃ e, W = over W5 e) => samples_any (HFB5.out.cg hW).bk (TabW.ov HT1.out (HFB5.out.cg hW).ov) id hG5 (by omega) (by omega))
              rw [hfr.1] at HSmp
              obtain ⟨zs, hzs⟩ : ∃ zs, s.all.take (s.rank ⟨tc, tb, tn⟩) = zs := ⟨_, rfl⟩
              have hzl : zs.length = s.rank ⟨tc, tb, tn⟩ := by rw [← hzs, List.length_take]; omega
              rw [hzs] at HSmp
              have HRW5 : Hid (SlM W5 (some ⟨rb, ro, none⟩) rc zs) := hid (by have h := (Sl.ov HRW.out O5.out).takeN (s.rank ⟨tc, tb, tn⟩); rw [hzs] at h; exact h)
              have HEnd2 : Hid (∀ W, (∃ e, W = over W5 e) → Calls Tryd.prog 12 #[.pointer (some ⟨b2, 0, none⟩), .int .u32 (id : Nat)] W (Ret W (.agg #[.int .u32 (tc : Nat), .int .u32 (tb : Nat), .int .u32 (tn : Nat)]))) := hid (fun W hW => by
                have k := bend_any (HFB5.out.cg hW).bk id (by rw [HG5.out]; omega)
                rw [HG5.out, hff] at k
                exact k)
              have HSum1 : Hid (∀ W, (∃ e, W = over W1 e) → Calls Tryd.prog 15 #[.pointer (some ⟨b, 0, none⟩), .int .u32 (id : Nat), .agg #[.int .u32 (tc : Nat), .int .u32 (tb : Nat), .int .u32 (tn : Nat)]] W (Ret W (.tuple #[.int .u64 (sumP c2 tn : Nat), .int .u16 0]))) := hid (fun W hW => sum_any (bk_ov HL.out.bk hW) id (p := ⟨tc, tb, tn⟩) (by rw [HK.out.get]; exact HFX.out.has) (by rw [HK.out.get]; omega))
              have HSum2 : Hid (∀ W, (∃ e, W = over W5 e) → Calls Tryd.prog 15 #[.pointer (some ⟨b2, 0, none⟩), .int .u32 (id : Nat), .agg #[.int .u32 (tc : Nat), .int .u32 (tb : Nat), .int .u32 (tn : Nat)]] W (Ret W (.tuple #[.int .u64 (sumP c2 tn : Nat), .int .u16 0]))) := hid (fun W hW => by
                have k := sum_any (HFB5.out.cg hW).bk id (p := ⟨tc, tb, tn⟩) (by rw [HG5.out]; exact front_has HFX.out.has) (by rw [HG5.out]; omega)
                simp only [sum_take] at k
                exact k)
              obtain ⟨sm, hsm⟩ : ∃ x, sumP c2 tn = x := ⟨_, rfl⟩
              rw [hsm] at HSum1 HSum2
              have hzs2 : zs.length ≤ 60 := by omega
              have HSame := hid (fun A C W (h1 : SlM W A C zs) (h2 : SlM W (some ⟨rb, ro, none⟩) rc zs) => rcsame_any zs zs (by omega) A C (some ⟨rb, ro, none⟩) rc W h1 h2)
              rw [decide_eq_true rfl] at HSame
              have hbl5 : bl < W5.heap.size := by obtain ⟨e, he⟩ := O5.out; rw [he]; simp; omega
              have y1 : W5.cell? ⟨bl, off + k * 2 + 1, none⟩ = some (.slice (some ⟨rb, ro, none⟩) s.all.length rc) := by obtain ⟨e, he⟩ := O5.out; rw [he, cell_over _ _ _ _ hbl]; exact HX1.out
              have hdl : decide (s.all.length < zs.length) = false := decide_eq_false (by omega)
              have hzc : zs.length ≤ rc := HRW5.out.le
              have hn100 : n ≤ 60 := by omega
              have hd100 : decide ((100 : Int) < (n : Nat)) = false := decide_eq_false (by omega)
              have v0 := D17.out.1.cell 0 rfl
              have v1 := D17.out.1.cell 1 rfl
              have v2 := D17.out.1.cell 2 rfl
              have vl := D17.out.1.lt
              have vf : ∀ j, W5.frozen? ⟨p13, j, none⟩ = false := fun j => D13.out.1.free j
              have vl3 := D13.out.1.lt
              have q0 := D13.out.1.cell 0 rfl
              have q1 := D13.out.1.cell 1 rfl
              have q2 := D13.out.1.cell 2 rfl
              obtain ⟨ll, hll⟩ : ∃ l, s.all.length = l := ⟨_, rfl⟩
              rw [hll] at y1 hdl
              obtain ⟨zl, hzll⟩ : ∃ l, zs.length = l := ⟨_, rfl⟩
              rw [hzll] at hdl hzc HSame
              have HZL := hid hzll
              have HLL := hid hll
              clear hFB5 hG5 hblk hfr hff hzs hsm hll hzll
              go_wp2_with (go_at_call 18; (with_reducible refine (HSmp.out _ (by (try unfold Ov); exact ovA)).mono ?_); rintro _ _ ⟨⟨e6, rfl⟩, v6, rfl, o6⟩; obtain ⟨a6, c6, rfl, sx6⟩ := Own.slice Sm.cs_len o6; rw [HZL.out])
              have S6 := hid sx6
              clear o6 sx6
              refine M2.wp_region_mix [31, 37] 41 (by kernel_rfl) (by kernel_rfl) (by decide) ?_
              simp only [List.take_succ_cons, List.take_zero, List.drop_succ_cons, List.drop_zero]
              with_reducible refine M2.mixL_quiet 31 (by kernel_rfl) ?_
              simp only [List.take_succ_cons, List.take_zero, List.drop_succ_cons, List.drop_zero]
              repeat (go_big_quiet_step (fail))
              with_reducible refine wpQuiet_nil ?_
              with_reducible refine M2.mixL_eff (by decide) ?_
              go_wp2_with ((first | (go_at_call 19; (with_reducible refine (HSame.out _ _ _ (by exact slA S6.out) (by exact slA HRW5.out)).mono ?_); rintro _ _ ⟨⟨e7, rfl⟩, rfl⟩) | (go_at_call 12; (with_reducible refine (HEnd2.out _ (by (try unfold Ov); exact ovA)).mono ?_); rintro _ _ ⟨⟨e8, rfl⟩, rfl⟩)))
              refine M2.MixQ.mk (by (try unfold Ov); exact ovA) ?_
              with_reducible refine M2.mixL_quiet 5 (by kernel_rfl) ?_
              simp only [List.take_succ_cons, List.take_zero, List.drop_succ_cons, List.drop_zero]
              repeat (go_big_quiet_step (fail))
              with_reducible refine wpQuiet_nil ?_
              with_reducible refine M2.mixL_eff (by decide) ?_
              go_wp2_with ((first | (go_at_call 19; (with_reducible refine (HSame.out _ _ _ (by exact slA S6.out) (by exact slA HRW5.out)).mono ?_); rintro _ _ ⟨⟨e7, rfl⟩, rfl⟩) | (go_at_call 12; (with_reducible refine (HEnd2.out _ (by (try unfold Ov); exact ovA)).mono ?_); rintro _ _ ⟨⟨e8, rfl⟩, rfl⟩)))
              refine M2.MixQ.mk (by (try unfold Ov); exact ovA) ?_
              with_reducible refine M2.mixL_quiet 3 (by kernel_rfl) ?_
              simp only [List.take_succ_cons, List.take_zero, List.drop_succ_cons, List.drop_zero]
              repeat (go_big_quiet_step (fail))
              with_reducible refine wpQuiet_nil ?_
              with_reducible refine M2.mixL_nil ?_
              with_reducible refine M2.mixL_nil ?_
              go_wp2_with (first | (go_at_call 15; (with_reducible refine (HSum1.out _ (by (try unfold Ov); exact ovB O5.out)).mono ?_); rintro _ _ ⟨⟨e9, rfl⟩, rfl⟩) | (go_at_call 15; (with_reducible refine (HSum2.out _ (by (try unfold Ov); exact ovA)).mono ?_); rintro _ _ ⟨⟨e10, rfl⟩, rfl⟩))
              refine ⟨⟨n + 1, kk + 1, ⟨tc, tb, tn⟩, c2, cl2, L'', HFX.out.has, by go_num, by omega, by first | rfl | go_num, by omega, ?_, FolB.stores HFB5.out D13.out.2 hp13w (chg_place _ _ _ _ _) (by (try unfold Ov); exact ovA), HG5.out, D13.out.2⟩, by simp [intOf]; try omega⟩
              repeat with_reducible refine Blk.on ?_ _
              exact blk_place D13.out.1 _ _ _
            · have hd0 : decide (0 < cuts.length) = false := decide_eq_false hc0
              clear hc0
              have hM2 : -9223372036854775808 ≤ (200 : Int) ∧ (200 : Int) ≤ 9223372036854775807 := by omega
              obtain ⟨hid32, hri, hop⟩ := laid_x HL.out hlt HK.out
              obtain ⟨fk, fcl, fsm, fbi, tc, tb, tn, c2, cl2, cs, hfx, hcut⟩ := fol_x HL.out.bk hsz.2 HK.out.get hri hop HH.out (by omega) hp 200 hM2
              have HCut := hid hcut
              have HFX := hid hfx
              have hrk2 := hfx.rank
              have hrk3 := rank_le hfx.has
              have hp60 : pc ≤ 60 := by omega
              have hk60 : k ≤ 60 := by omega
              clear hcut hfx hri hop
              go_wp2
              refine M2.wp_region_mix [3] 5 (by kernel_rfl) (by kernel_rfl) (by decide) ?_
              simp only [List.take_succ_cons, List.take_zero, List.drop_succ_cons, List.drop_zero]
              with_reducible refine M2.mixL_quiet 3 (by kernel_rfl) ?_
              simp only [List.take_succ_cons, List.take_zero, List.drop_succ_cons, List.drop_zero]
              repeat (go_big_quiet_step (fail))
              with_reducible refine wpQuiet_nil ?_
              with_reducible refine M2.mixL_eff (by decide) ?_
              go_wp2_with ((go_at_call 12; (with_reducible refine (HEnd.out _ (by (try unfold Ov); exact ovB O3.out)).mono ?_); rintro _ _ ⟨⟨e4, rfl⟩, rfl⟩))
              refine M2.MixQ.mk (by (try unfold Ov); exact ovA) ?_
              with_reducible refine M2.mixL_quiet 1 (by kernel_rfl) ?_
              simp only [List.take_succ_cons, List.take_zero, List.drop_succ_cons, List.drop_zero]
              repeat (go_big_quiet_step (fail))
              with_reducible refine wpQuiet_nil ?_
              with_reducible refine M2.mixL_nil ?_
              with_reducible refine M2.mixL_nil ?_
              go_wp2_with (go_at_call 13; (with_reducible refine (HCut.out _ (by (try unfold Ov); exact ovB O3.out)).mono ?_); rintro _ _ ⟨a9, c9, rfl, ⟨e9, rfl⟩, o9⟩)
              have S9 := hid (Own.slice' (sz := 1) (cells := bcs) (fun _ => rfl) o9).2
              refine gen_c ?_
              intro W4 hW4
              obtain ⟨p17, hp17⟩ : ∃ p, p = wr.heap.size + e4.heap.size + e9.heap.size + 1 := ⟨_, rfl⟩
              have P17 : Hid (Blk W4 p17 [.int .u32 (tc : Nat), .int .u32 (tb : Nat), .int .u32 (tn : Nat)] 35) := hid (by rw [hW4, hp17]; exact Blk.new' (by simp))
              have P13 : Hid (Blk W4 p13 [.int .u32 (pc : Nat), .int .u32 (pb : Nat), .int .u32 (pn : Nat)] 35) := hid (by rw [hW4]; exact (((D3.out.on _).on _).alloc _).alloc _)
              have O4 : Hid (∃ e, W4 = over wr e) := hid (by rw [hW4]; exact (by (try unfold Ov); exact ovA))
              have hnb17 : p17 ∉ bkB b2 mb2 L' := fun hm => by have := (HFB.out.bk.blt _ hm).2; omega
              have S94 : Hid (SlB W4 a9 c9 (pack fbi)) := hid (by rw [hW4]; exact (by exact slA S9.out))
              have hp137 : p13 ≠ p17 := by omega
              rw [← hp17]
              clear hW4 hp17 S9 o9 v0 v1 v2 vl
              refine (fol_take HFB.out O4.out (TabW.ov HT1.out (ov_tr O3.out O4.out)) hkS hk60 HFX.out HG.out hid32 hcl hp60 hpl.1 hpl.2.1 S94.out).mono ?_
              rintro _ W5 ⟨rfl, L'', hFB5, hG5, hblk⟩
              have D13 := hid (hblk _ _ _ P13.out HNB.out)
              have D17 := hid (hblk _ _ _ P17.out hnb17)
              have HFB5 := hid hFB5
              have HG5 := hid hG5
              have O5 := hid hFB5.ov
              have hfr := front_all HFX.out.has
              have hff := front_fin HFX.out.has
              have hft : (frontS s tc c2 tn).cl.length ≤ 60 := by simp only [frontS, List.length_take]; omega
              have HSmp := hid (fun W (hW : ∃ e, W = over W5 e) => samples_any (HFB5.out.cg hW).bk (TabW.ov HT1.out (HFB5.out.cg hW).ov) id hG5 (by omega) (by omega))
              rw [hfr.1] at HSmp
              obtain ⟨zs, hzs⟩ : ∃ zs, s.all.take (s.rank ⟨tc, tb, tn⟩) = zs := ⟨_, rfl⟩
              have hzl : zs.length = s.rank ⟨tc, tb, tn⟩ := by rw [← hzs, List.length_take]; omega
              rw [hzs] at HSmp
              have HRW5 : Hid (SlM W5 (some ⟨rb, ro, none⟩) rc zs) := hid (by have h := (Sl.ov HRW.out O5.out).takeN (s.rank ⟨tc, tb, tn⟩); rw [hzs] at h; exact h)
              have HEnd2 : Hid (∀ W, (∃ e, W = over W5 e) → Calls Tryd.prog 12 #[.pointer (some ⟨b2, 0, none⟩), .int .u32 (id : Nat)] W (Ret W (.agg #[.int .u32 (tc : Nat), .int .u32 (tb : Nat), .int .u32 (tn : Nat)]))) := hid (fun W hW => by
                have k := bend_any (HFB5.out.cg hW).bk id (by rw [HG5.out]; omega)
                rw [HG5.out, hff] at k
                exact k)
              have HSum1 : Hid (∀ W, (∃ e, W = over W1 e) → Calls Tryd.prog 15 #[.pointer (some ⟨b, 0, none⟩), .int .u32 (id : Nat), .agg #[.int .u32 (tc : Nat), .int .u32 (tb : Nat), .int .u32 (tn : Nat)]] W (Ret W (.tuple #[.int .u64 (sumP c2 tn : Nat), .int .u16 0]))) := hid (fun W hW => sum_any (bk_ov HL.out.bk hW) id (p := ⟨tc, tb, tn⟩) (by rw [HK.out.get]; exact HFX.out.has) (by rw [HK.out.get]; omega))
              have HSum2 : Hid (∀ W, (∃ e, W = over W5 e) → Calls Tryd.prog 15 #[.pointer (some ⟨b2, 0, none⟩), .int .u32 (id : Nat), .agg #[.int .u32 (tc : Nat), .int .u32 (tb : Nat), .int .u32 (tn : Nat)]] W (Ret W (.tuple #[.int .u64 (sumP c2 tn : Nat), .int .u16 0]))) := hid (fun W hW => by
                have k := sum_any (HFB5.out.cg hW).bk id (p := ⟨tc, tb, tn⟩) (by rw [HG5.out]; exact front_has HFX.out.has) (by rw [HG5.out]; omega)
                simp only [sum_take] at k
                exact k)
              obtain ⟨sm, hsm⟩ : ∃ x, sumP c2 tn = x := ⟨_, rfl⟩
              rw [hsm] at HSum1 HSum2
              have hzs2 : zs.length ≤ 60 := by omega
              have HSame := hid (fun A C W (h1 : SlM W A C zs) (h2 : SlM W (some ⟨rb, ro, none⟩) rc zs) => rcsame_any zs zs (by omega) A C (some ⟨rb, ro, none⟩) rc W h1 h2)
              rw [decide_eq_true rfl] at HSame
              have hbl5 : bl < W5.heap.size := by obtain ⟨e, he⟩ := O5.out; rw [he]; simp; omega
              have y1 : W5.cell? ⟨bl, off + k * 2 + 1, none⟩ = some (.slice (some ⟨rb, ro, none⟩) s.all.length rc) := by obtain ⟨e, he⟩ := O5.out; rw [he, cell_over _ _ _ _ hbl]; exact HX1.out
              have hdl : decide (s.all.length < zs.length) = false := decide_eq_false (by omega)
              have hzc : zs.length ≤ rc := HRW5.out.le
              have hn100 : n ≤ 60 := by omega
              have hd100 : decide ((100 : Int) < (n : Nat)) = false := decide_eq_false (by omega)
              have v0 := D17.out.1.cell 0 rfl
              have v1 := D17.out.1.cell 1 rfl
              have v2 := D17.out.1.cell 2 rfl
              have vl := D17.out.1.lt
              have vf : ∀ j, W5.frozen? ⟨p13, j, none⟩ = false := fun j => D13.out.1.free j
              have vl3 := D13.out.1.lt
              have q0 := D13.out.1.cell 0 rfl
              have q1 := D13.out.1.cell 1 rfl
              have q2 := D13.out.1.cell 2 rfl
              obtain ⟨ll, hll⟩ : ∃ l, s.all.length = l := ⟨_, rfl⟩
              rw [hll] at y1 hdl
              obtain ⟨zl, hzll⟩ : ∃ l, zs.length = l := ⟨_, rfl⟩
              rw [hzll] at hdl hzc HSame
              have HZL := hid hzll
              have HLL := hid hll
              clear hFB5 hG5 hblk hfr hff hzs hsm hll hzll
              go_wp2_with (go_at_call 18; (with_reducible refine (HSmp.out _ (by (try unfold Ov); exact ovA)).mono ?_); rintro _ _ ⟨⟨e6, rfl⟩, v6, rfl, o6⟩; obtain ⟨a6, c6, rfl, sx6⟩ := Own.slice Sm.cs_len o6; rw [HZL.out])
              have S6 := hid sx6
              clear o6 sx6
              refine M2.wp_region_mix [31, 37] 41 (by kernel_rfl) (by kernel_rfl) (by decide) ?_
              simp only [List.take_succ_cons, List.take_zero, List.drop_succ_cons, List.drop_zero]
              with_reducible refine M2.mixL_quiet 31 (by kernel_rfl) ?_
              simp only [List.take_succ_cons, List.take_zero, List.drop_succ_cons, List.drop_zero]
              repeat (go_big_quiet_step (fail))
              with_reducible refine wpQuiet_nil ?_
              with_reducible refine M2.mixL_eff (by decide) ?_
              go_wp2_with ((first | (go_at_call 19; (with_reducible refine (HSame.out _ _ _ (by exact slA S6.out) (by exact slA HRW5.out)).mono ?_); rintro _ _ ⟨⟨e7, rfl⟩, rfl⟩) | (go_at_call 12; (with_reducible refine (HEnd2.out _ (by (try unfold Ov); exact ovA)).mono ?_); rintro _ _ ⟨⟨e8, rfl⟩, rfl⟩)))
              refine M2.MixQ.mk (by (try unfold Ov); exact ovA) ?_
              with_reducible refine M2.mixL_quiet 5 (by kernel_rfl) ?_
              simp only [List.take_succ_cons, List.take_zero, List.drop_succ_cons, List.drop_zero]
              repeat (go_big_quiet_step (fail))
              with_reducible refine wpQuiet_nil ?_
              with_reducible refine M2.mixL_eff (by decide) ?_
              go_wp2_with ((first | (go_at_call 19; (with_reducible refine (HSame.out _ _ _ (by exact slA S6.out) (by exact slA HRW5.out)).mono ?_); rintro _ _ ⟨⟨e7, rfl⟩, rfl⟩) | (go_at_call 12; (with_reducible refine (HEnd2.out _ (by (try unfold Ov); exact ovA)).mono ?_); rintro _ _ ⟨⟨e8, rfl⟩, rfl⟩)))
              refine M2.MixQ.mk (by (try unfold Ov); exact ovA) ?_
              with_reducible refine M2.mixL_quiet 3 (by kernel_rfl) ?_
              simp only [List.take_succ_cons, List.take_zero, List.drop_succ_cons, List.drop_zero]
              repeat (go_big_quiet_step (fail))
              with_reducible refine wpQuiet_nil ?_
              with_reducible refine M2.mixL_nil ?_
              with_reducible refine M2.mixL_nil ?_
              go_wp2_with (first | (go_at_call 15; (with_reducible refine (HSum1.out _ (by (try unfold Ov); exact ovB O5.out)).mono ?_); rintro _ _ ⟨⟨e9, rfl⟩, rfl⟩) | (go_at_call 15; (with_reducible refine (HSum2.out _ (by (try unfold Ov); exact ovA)).mono ?_); rintro _ _ ⟨⟨e10, rfl⟩, rfl⟩))
              refine ⟨⟨n + 1, kk, ⟨tc, tb, tn⟩, c2, cl2, L'', HFX.out.has, by go_num, by omega, by first | rfl | go_num, by omega, ?_, FolB.stores HFB5.out D13.out.2 hp13w (chg_place _ _ _ _ _) (by (try unfold Ov); exact ovA), HG5.out, D13.out.2⟩, by simp [intOf]; try omega⟩
              repeat with_reducible refine Blk.on ?_ _
              exact blk_place D13.out.1 _ _ _
      · obtain rfl : k = rs.length := by omega
        go_wp2
        go_ret
        exact ⟨ov_tr O1.out (by (try unfold Ov); exact ovB O3.out), rfl⟩
end Go.Proofs.YtlmfcghlbingjaaDoor
