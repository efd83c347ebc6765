/- Walks: BookCuts. -/
import Derived.Test.YtlmfcghlbingjaaDoorLSum
import Derived.Test.YtlmfcghlbingjaaDoorRgC
namespace Go.Proofs.YtlmfcghlbingjaaDoor
set_option linter.unusedVariables false
set_option linter.unusedSimpArgs false
open Go.RowKit
attribute [local go_sem] over_drew chg_drew
attribute [local go_sem high] place_eql place_neq

set_option maxRecDepth 100000 in
set_option maxHeartbeats 4000000 in
theorem bookCuts_any (size : Int) (hz : -9223372036854775808 ≤ size ∧ size ≤ 9223372036854775807) (xs : List Opr) (hx : ∀ o ∈ xs, o.wf) (a : Option Addr) (cap : Nat) (series : Int) (hse : 0 ≤ series ∧ series ≤ 4294967295) (at_ : Int) (hat : 0 ≤ at_ ∧ at_ ≤ 255) (most : Int) (hm : -9223372036854775808 ≤ most ∧ most ≤ 9223372036854775807) (w : World) (hT : TabW w) (hs : SlO w a cap xs) :
    Calls Tryd.prog 4 #[.int .i64 size, .slice a xs.length cap, .int .u32 series, .int .u8 at_, .int .i64 most] w (Ret w (.bool true)) := by
  have HHv := hid (fun W (hW : SlO W a cap xs) => heavy_any xs a cap W hW)
  have HKn := hid (fun W (hW : TabW W) => known_any W hW)
  obtain ⟨H, hH⟩ : ∃ H, heavyB xs = H := ⟨_, rfl⟩
  rw [hH] at HHv
  cases H with
  | true =>
    go_enter Tryd.func4, Tryd.ntmps4
    go_wp2_with (first | (go_at_call 8; (with_reducible refine (HHv.out _ (by exact slA hs)).mono ?_); rintro _ _ ⟨⟨e1, rfl⟩, rfl⟩) | (go_at_call 9; (with_reducible refine (HKn.out _ (by exact tabA hT)).mono ?_); rintro _ _ ⟨⟨e2, rfl⟩, rfl⟩))
    go_ret
    exact ⟨(by (try unfold Ov); exact ovA), rfl⟩
  | false =>
    have hl := heavy_len hH
    have HLay := hid (fun W (h1 : TabW W) (h2 : SlO W a cap xs) => layB_any size hz xs hx hl a cap W h1 h2)
    have hsz := lsz_ok size
    obtain ⟨sz, hsz0⟩ : ∃ sz, lsz size = sz := ⟨_, rfl⟩
    rw [hsz0] at HLay hsz
    have hol : (opsL xs).length ≤ 60 := by simp [opsL]; exact hl
    obtain ⟨ops, hops⟩ : ∃ ops, opsL xs = ops := ⟨_, rfl⟩
    rw [hops] at HLay hol
    obtain ⟨am, ham⟩ : ∃ m : Nat, at_ = (m : Int) := ⟨at_.toNat, by omega⟩
    subst ham
    obtain ⟨d, hd⟩ : ∃ d, am % 40 = d := ⟨_, rfl⟩
    have hdi : (am : Int) % 40 = (d : Int) := by omega
    have hd40 : d < 40 := by omega
    clear hx hz hH hops hsz0 hd
    go_enter Tryd.func4, Tryd.ntmps4
    go_wp2_with (first
      | (go_at_call 8; (with_reducible refine (HHv.out _ (by exact slA hs)).mono ?_); rintro _ _ ⟨⟨e1, rfl⟩, rfl⟩)
      | (go_at_call 9; (with_reducible refine (HKn.out _ (by exact tabA hT)).mono ?_); rintro _ _ ⟨⟨e2, rfl⟩, rfl⟩)
      | (go_at_call 10
         (with_reducible refine (HLay.out _ (by exact tabA hT) (by exact slA hs)).mono ?_)
         rintro _ W1 ⟨b, mb, L, al, cl, rs, rfl, ⟨e1, hW1⟩, hb, he, hsl, _, hmap⟩
         have O1 : Hid (∃ e, W1 = over w e) := hid (by rw [hW1]; exact (by (try unfold Ov); exact ovA))
         have hLd := laid_of hsz.1 hol hb he hmap
         have HL := hid hLd
         have HSL := hid hsl
         have hrl : rs.length ≤ 60 := by rw [hLd.len]; exact hLd.I.len
         clear hW1 hb he hmap hLd hsl))
    go_loopw [13, 14, 15, 16, 17, 18, 19, 20, 21, 22, 23, 24, 25] (fun i _ _ _ _ _ _ _ _ _ _ _ _ wr => ∃ k : Nat, k ≤ rs.length ∧ i = .int .i64 (k : Nat) ∧ Ov W1 wr) (fun i _ _ _ _ _ _ _ _ _ _ _ _ _ => rs.length - (intOf i).toNat)
    case atStart => exact ⟨0, Nat.zero_le _, rfl, (by (try unfold Ov); exact ovA)⟩
    case round =>
      obtain ⟨k, hk, rfl, ⟨e0, rfl⟩⟩ := hrel
      by_cases hlt : k < rs.length
      · obtain ⟨bl, off, rfl, hbl, x0, x1⟩ := SlR.at_ HSL.out hlt
        obtain ⟨id, s, hK⟩ := HL.out.k hlt
        rw [hK.nid hlt] at x0
        have HK := hid hK
        have HX0 := hid x0
        have hcl := hK.cl
        have hall := hK.all
        obtain ⟨c0, b0, hz0⟩ := has_at hK.ok (Nat.zero_le _)
        have HZ0 := hid hz0
        clear hK hz0 x1 x0
        go_wp2
        refine gen_w ?_
        intro W2 hW2
        have O2 : Hid (∃ e, W2 = over W1 e) := hid (by rw [hW2]; exact (by (try unfold Ov); exact ovA))
        obtain ⟨p14, hp14⟩ : ∃ p, p = W1.heap.size + e0.heap.size := ⟨_, rfl⟩
        have D0 : Hid (Blk W2 p14 [.int .u32 0, .int .u32 0, .int .u32 0] 35) := hid (by rw [hW2, hp14]; exact Blk.new' (by simp))
        have hp1 : W1.heap.size ≤ p14 := by omega
        rw [← hp14]
        clear hW2 hp14
        have hfb := fin_le HK.out.ok
        obtain ⟨⟨fc, fb, fn⟩, hfin⟩ : ∃ f, s.fin = f := ⟨_, rfl⟩
        rw [hfin] at hfb
        simp only at hfb
        have HFin := hid hfin
        have HEnd : Hid (∀ W, (∃ e, W = over W1 e) → Calls Tryd.prog 12 #[.pointer (some ⟨b, 0, none⟩), .int .u32 (id : Nat)] W (Ret W (.agg #[.int .u32 (fc : Nat), .int .u32 (fb : Nat), .int .u32 (fn : Nat)]))) := hid (fun W hW => by
          have k := bend_any (bk_ov HL.out.bk hW) id (by rw [HK.out.get]; omega)
          rw [HK.out.get, hfin] at k
          exact k)
        clear hfin
        go_loopw [15, 16, 17, 18] (fun nv _ _ _ wx => ∃ (n : Nat) (p : Pl) (c : List Sm) (cb : Bool), s.has p c cb ∧ nv = .int .u8 (n : Nat) ∧ n ≤ d ∧ Blk wx p14 [.int .u32 (p.chunk : Nat), .int .u32 (p.bits : Nat), .int .u32 (p.count : Nat)] 35 ∧ Ov W1 wx) (fun nv _ _ _ _ => 100 - (intOf nv).toNat)
        case atStart => exact ⟨0, Pl.zero, c0, b0, HZ0.out, rfl, Nat.zero_le _, D0.out, O2.out⟩
        case round =>
          obtain ⟨n, ⟨pc, pb, pn⟩, c, cb, hh, rfl, hn, hB, hov⟩ := hrel
          have O3 : Hid (∃ e, wr = over W1 e) := hid hov
          have D3 : Hid (Blk wr p14 [.int .u32 (pc : Nat), .int .u32 (pb : Nat), .int .u32 (pn : Nat)] 35) := hid hB
          have HH := hid hh
          have hpl := has_le HK.out.ok hh
          simp only at hpl hB
          have v0 := hB.cell 0 rfl
          have v1 := hB.cell 1 rfl
          have v2 := hB.cell 2 rfl
          have vl := hB.lt
          have hbr : bl < wr.heap.size := by obtain ⟨e, he⟩ := O3.out; rw [he]; simp; omega
          have x0 : wr.cell? ⟨bl, off + k * 2, none⟩ = some (.int .u32 (id : Nat)) := by obtain ⟨e, he⟩ := O3.out; rw [he, cell_over _ _ _ _ hbl]; exact HX0.out
          clear hov hB hh
          by_cases hnd : n < d
          · obtain ⟨fi, g0, g1, g2, fk, fcl, fsm, fbi, bi, tc, tb, tn, hca, hcut⟩ := cut_all HL.out.bk HK.out.get HH.out (by omega) 1 (by omega)
            have HCut := hid hcut
            obtain ⟨c2, cb2, hh2⟩ := hca.has
            have HH2 := hid hh2
            clear hcut hca hh2
            go_wp2
            apply region_cut4 (F := fun q1 q2 a9 c9 w' => CutV wr w' q1 q2 [.int .u8 0, .int .u32 0, .int .u32 (fi : Nat), .int .u32 (g0 : Nat), .int .u32 (g1 : Nat), .int .u32 (g2 : Nat), .int .u32 (fk : Nat), .bool fcl, .int .u64 (fsm : Nat), .slice a9 (pack fbi).length c9, .int .i64 (bi : Nat)] [.int .u32 (tc : Nat), .int .u32 (tb : Nat), .int .u32 (tn : Nat)] 45 35)
            case h1 =>
              refine M2.wp_region_tree (fun w' => ∃ e : World, w' = over _ e) [7, 12, 13, 14, 15] (.q 0 (.q 1 (.q 2 (.q 3 (.q 4 (.q 5 (.q 6 (.e 7 (.q 8 (.q 9 (.q 10 (.q 11 (.e 12 (.e 13 (.e 14 (.e 15 (.q 16 .done) .no) .no) .no) (.e 13 (.e 12 (.e 14 (.e 15 (.q 16 .done) .no) .no) .no) .no)))))) (.e 12 (.e 7 (.q 8 (.q 9 (.q 10 (.q 11 (.e 13 (.e 14 (.e 15 (.q 16 .done) .no) .no) .no))))) (.e 13 (.e 7 (.q 8 (.q 9 (.q 10 (.q 11 (.e 14 (.e 15 (.q 16 .done) .no) .no))))) .no) .no)) (.e 13 (.e 7 (.q 8 (.q 9 (.q 10 (.q 11 (.e 12 (.e 14 (.e 15 (.q 16 .done) .no) .no) .no))))) (.e 12 (.e 7 (.q 8 (.q 9 (.q 10 (.q 11 (.e 14 (.e 15 (.q 16 .done) .no) .no))))) .no) .no)) .no)))))))))) (by kernel_rfl) (by kernel_rfl) (ex_drew (over_self _)) ?_
              refine M2.tree_q (k := 0) rfl rfl ?_
              go_big_quiet_step (fail)
              with_reducible refine wpQuiet_nil ?_
              refine M2.tree_q (k := 1) rfl rfl ?_
              go_big_quiet_step (fail)
              with_reducible refine wpQuiet_nil ?_
              refine M2.tree_q (k := 2) rfl rfl ?_
              go_big_quiet_step (fail)
              with_reducible refine wpQuiet_nil ?_
              refine M2.tree_q (k := 3) rfl rfl ?_
              go_big_quiet_step (fail)
              with_reducible refine wpQuiet_nil ?_
              refine M2.tree_q (k := 4) rfl rfl ?_
              go_big_quiet_step (fail)
              with_reducible refine wpQuiet_nil ?_
              refine M2.tree_q (k := 5) rfl rfl ?_
              go_big_quiet_step (fail)
              with_reducible refine wpQuiet_nil ?_
              refine M2.tree_q (k := 6) rfl rfl ?_
              go_big_quiet_step (fail)
              with_reducible refine wpQuiet_nil ?_
              refine M2.tree_e (k := 7) rfl ?_ ?_
              · go_wp2_with ((go_at_call 13; (with_reducible refine (HCut.out _ (by (try unfold Ov); exact ovB O3.out)).mono ?_); rintro _ _ ⟨a9, c9, rfl, ⟨e9, rfl⟩, _⟩))
                refine M2.TreeQ.mk (by (try unfold Ov); exact ovA) ?_
                refine M2.tree_q (k := 8) rfl rfl ?_
                go_big_quiet_step (fail)
                with_reducible refine wpQuiet_nil ?_
                refine M2.tree_q (k := 9) rfl rfl ?_
                go_big_quiet_step (fail)
                with_reducible refine wpQuiet_nil ?_
                refine M2.tree_q (k := 10) rfl rfl ?_
                go_big_quiet_step (fail)
                with_reducible refine wpQuiet_nil ?_
                refine M2.tree_q (k := 11) rfl rfl ?_
                go_big_quiet_step (fail)
                with_reducible refine wpQuiet_nil ?_
                refine M2.tree_e (k := 12) rfl ?_ ?_
                · go_wp2_with ((go_at_call 13; (with_reducible refine (HCut.out _ (by (try unfold Ov); exact ovB O3.out)).mono ?_); rintro _ _ ⟨a9, c9, rfl, ⟨e9, rfl⟩, _⟩))
                  refine M2.TreeQ.mk (by (try unfold Ov); exact ovA) ?_
                  refine M2.tree_e (k := 13) rfl ?_ ?_
                  · go_wp2_with ((go_at_call 13; (with_reducible refine (HCut.out _ (by (try unfold Ov); exact ovB O3.out)).mono ?_); rintro _ _ ⟨a9, c9, rfl, ⟨e9, rfl⟩, _⟩))
                    refine M2.TreeQ.mk (by (try unfold Ov); exact ovA) ?_
                    refine M2.tree_e (k := 14) rfl ?_ ?_
                    · go_wp2_with ((go_at_call 13; (with_reducible refine (HCut.out _ (by (try unfold Ov); exact ovB O3.out)).mono ?_); rintro _ _ ⟨a9, c9, rfl, ⟨e9, rfl⟩, _⟩))
                      refine M2.TreeQ.mk (by (try unfold Ov); exact ovA) ?_
                      refine M2.tree_e (k := 15) rfl ?_ ?_
                      · go_wp2_with ((go_at_call 13; (with_reducible refine (HCut.out _ (by (try unfold Ov); exact ovB O3.out)).mono ?_); rintro _ _ ⟨a9, c9, rfl, ⟨e9, rfl⟩, _⟩))
                        refine M2.TreeQ.mk (by (try unfold Ov); exact ovA) ?_
                        refine M2.tree_q (k := 16) rfl rfl ?_
                        go_big_quiet_step (fail)
                        with_reducible refine wpQuiet_nil ?_
                        refine M2.tree_done ?_
                        obtain ⟨q1, hq1⟩ : ∃ q, q = (wr.heap.size + e9.heap.size) := ⟨_, rfl⟩
                        obtain ⟨q2, hq2⟩ : ∃ q, q = (wr.heap.size + e9.heap.size + 1) := ⟨_, rfl⟩
                        first | rw [← hq2, ← hq1] | rw [← hq1, ← hq2]
                        refine RgPost.mk q1 q2 a9 c9 rfl ?_
                        refine ⟨(by (try unfold Ov); exact ovA), Blk.to (by repeat (first | exact Blk.new' (by first | exact hq1 | (rw [hq1]; simp; done) | (rw [hq1]; simp; omega)) | with_reducible refine Blk.drew ?_ | with_reducible refine Blk.on ?_ _ | with_reducible refine Blk.alloc ?_ _ | with_reducible refine Blk.set ?_ _ _ | ((with_reducible refine Blk.set_ne ?_ ?_ _); rotate_left; (first | omega | (focus (simp; done)) | (focus (simp; omega)))))) rfl, Blk.to (by repeat (first | exact Blk.new' (by first | exact hq2 | (rw [hq2]; simp; done) | (rw [hq2]; simp; omega)) | with_reducible refine Blk.drew ?_ | with_reducible refine Blk.on ?_ _ | with_reducible refine Blk.alloc ?_ _ | with_reducible refine Blk.set ?_ _ _ | ((with_reducible refine Blk.set_ne ?_ ?_ _); rotate_left; (first | omega | (focus (simp; done)) | (focus (simp; omega)))))) rfl, ⟨by omega, by omega⟩⟩
                      exact M2.tree_no
                    exact M2.tree_no
                  exact M2.tree_no
                refine M2.tree_e (k := 13) rfl ?_ ?_
                · go_wp2_with ((go_at_call 13; (with_reducible refine (HCut.out _ (by (try unfold Ov); exact ovB O3.out)).mono ?_); rintro _ _ ⟨a9, c9, rfl, ⟨e9, rfl⟩, _⟩))
                  refine M2.TreeQ.mk (by (try unfold Ov); exact ovA) ?_
                  refine M2.tree_e (k := 12) rfl ?_ ?_
                  · go_wp2_with ((go_at_call 13; (with_reducible refine (HCut.out _ (by (try unfold Ov); exact ovB O3.out)).mono ?_); rintro _ _ ⟨a9, c9, rfl, ⟨e9, rfl⟩, _⟩))
                    refine M2.TreeQ.mk (by (try unfold Ov); exact ovA) ?_
                    refine M2.tree_e (k := 14) rfl ?_ ?_
                    · go_wp2_with ((go_at_call 13; (with_reducible refine (HCut.out _ (by (try unfold Ov); exact ovB O3.out)).mono ?_); rintro _ _ ⟨a9, c9, rfl, ⟨e9, rfl⟩, _⟩))
                      refine M2.TreeQ.mk (by (try unfold Ov); exact ovA) ?_
                      refine M2.tree_e (k := 15) rfl ?_ ?_
                      · go_wp2_with ((go_at_call 13; (with_reducible refine (HCut.out _ (by (try unfold Ov); exact ovB O3.out)).mono ?_); rintro _ _ ⟨a9, c9, rfl, ⟨e9, rfl⟩, _⟩))
                        refine M2.TreeQ.mk (by (try unfold Ov); exact ovA) ?_
                        refine M2.tree_q (k := 16) rfl rfl ?_
                        go_big_quiet_step (fail)
                        with_reducible refine wpQuiet_nil ?_
                        refine M2.tree_done ?_
                        obtain ⟨q1, hq1⟩ : ∃ q, q = (wr.heap.size + e9.heap.size + 1) := ⟨_, rfl⟩
                        obtain ⟨q2, hq2⟩ : ∃ q, q = (wr.heap.size + e9.heap.size) := ⟨_, rfl⟩
                        first | rw [← hq2, ← hq1] | rw [← hq1, ← hq2]
                        refine RgPost.mk q1 q2 a9 c9 rfl ?_
                        refine ⟨(by (try unfold Ov); exact ovA), Blk.to (by repeat (first | exact Blk.new' (by first | exact hq1 | (rw [hq1]; simp; done) | (rw [hq1]; simp; omega)) | with_reducible refine Blk.drew ?_ | with_reducible refine Blk.on ?_ _ | with_reducible refine Blk.alloc ?_ _ | with_reducible refine Blk.set ?_ _ _ | ((with_reducible refine Blk.set_ne ?_ ?_ _); rotate_left; (first | omega | (focus (simp; done)) | (focus (simp; omega)))))) rfl, Blk.to (by repeat (first | exact Blk.new' (by first | exact hq2 | (rw [hq2]; simp; done) | (rw [hq2]; simp; omega)) | with_reducible refine Blk.drew ?_ | with_reducible refine Blk.on ?_ _ | with_reducible refine Blk.alloc ?_ _ | with_reducible refine Blk.set ?_ _ _ | ((with_reducible refine Blk.set_ne ?_ ?_ _); rotate_left; (first | omega | (focus (simp; done)) | (focus (simp; omega)))))) rfl, ⟨by omega, by omega⟩⟩
                      exact M2.tree_no
                    exact M2.tree_no
                  exact M2.tree_no
                exact M2.tree_no
              refine M2.tree_e (k := 12) rfl ?_ ?_
              · go_wp2_with ((go_at_call 13; (with_reducible refine (HCut.out _ (by (try unfold Ov); exact ovB O3.out)).mono ?_); rintro _ _ ⟨a9, c9, rfl, ⟨e9, rfl⟩, _⟩))
                refine M2.TreeQ.mk (by (try unfold Ov); exact ovA) ?_
                refine M2.tree_e (k := 7) rfl ?_ ?_
                · go_wp2_with ((go_at_call 13; (with_reducible refine (HCut.out _ (by (try unfold Ov); exact ovB O3.out)).mono ?_); rintro _ _ ⟨a9, c9, rfl, ⟨e9, rfl⟩, _⟩))
                  refine M2.TreeQ.mk (by (try unfold Ov); exact ovA) ?_
                  refine M2.tree_q (k := 8) rfl rfl ?_
                  go_big_quiet_step (fail)
                  with_reducible refine wpQuiet_nil ?_
                  refine M2.tree_q (k := 9) rfl rfl ?_
                  go_big_quiet_step (fail)
                  with_reducible refine wpQuiet_nil ?_
                  refine M2.tree_q (k := 10) rfl rfl ?_
                  go_big_quiet_step (fail)
                  with_reducible refine wpQuiet_nil ?_
                  refine M2.tree_q (k := 11) rfl rfl ?_
                  go_big_quiet_step (fail)
                  with_reducible refine wpQuiet_nil ?_
                  refine M2.tree_e (k := 13) rfl ?_ ?_
                  · go_wp2_with ((go_at_call 13; (with_reducible refine (HCut.out _ (by (try unfold Ov); exact ovB O3.out)).mono ?_); rintro _ _ ⟨a9, c9, rfl, ⟨e9, rfl⟩, _⟩))
                    refine M2.TreeQ.mk (by (try unfold Ov); exact ovA) ?_
                    refine M2.tree_e (k := 14) rfl ?_ ?_
                    · go_wp2_with ((go_at_call 13; (with_reducible refine (HCut.out _ (by (try unfold Ov); exact ovB O3.out)).mono ?_); rintro _ _ ⟨a9, c9, rfl, ⟨e9, rfl⟩, _⟩))
                      refine M2.TreeQ.mk (by (try unfold Ov); exact ovA) ?_
                      refine M2.tree_e (k := 15) rfl ?_ ?_
                      · go_wp2_with ((go_at_call 13; (with_reducible refine (HCut.out _ (by (try unfold Ov); exact ovB O3.out)).mono ?_); rintro _ _ ⟨a9, c9, rfl, ⟨e9, rfl⟩, _⟩))
                        refine M2.TreeQ.mk (by (try unfold Ov); exact ovA) ?_
                        refine M2.tree_q (k := 16) rfl rfl ?_
                        go_big_quiet_step (fail)
                        with_reducible refine wpQuiet_nil ?_
                        refine M2.tree_done ?_
                        obtain ⟨q1, hq1⟩ : ∃ q, q = (wr.heap.size) := ⟨_, rfl⟩
                        obtain ⟨q2, hq2⟩ : ∃ q, q = (wr.heap.size + 1 + e9.heap.size) := ⟨_, rfl⟩
                        first | rw [← hq2, ← hq1] | rw [← hq1, ← hq2]
                        refine RgPost.mk q1 q2 a9 c9 rfl ?_
                        refine ⟨(by (try unfold Ov); exact ovA), Blk.to (by repeat (first | exact Blk.new' (by first | exact hq1 | (rw [hq1]; simp; done) | (rw [hq1]; simp; omega)) | with_reducible refine Blk.drew ?_ | with_reducible refine Blk.on ?_ _ | with_reducible refine Blk.alloc ?_ _ | with_reducible refine Blk.set ?_ _ _ | ((with_reducible refine Blk.set_ne ?_ ?_ _); rotate_left; (first | omega | (focus (simp; done)) | (focus (simp; omega)))))) rfl, Blk.to (by repeat (first | exact Blk.new' (by first | exact hq2 | (rw [hq2]; simp; done) | (rw [hq2]; simp; omega)) | with_reducible refine Blk.drew ?_ | with_reducible refine Blk.on ?_ _ | with_reducible refine Blk.alloc ?_ _ | with_reducible refine Blk.set ?_ _ _ | ((with_reducible refine Blk.set_ne ?_ ?_ _); rotate_left; (first | omega | (focus (simp; done)) | (focus (simp; omega)))))) rfl, ⟨by omega, by omega⟩⟩
                      exact M2.tree_no
                    exact M2.tree_no
                  exact M2.tree_no
                refine M2.tree_e (k := 13) rfl ?_ ?_
                · go_wp2_with ((go_at_call 13; (with_reducible refine (HCut.out _ (by (try unfold Ov); exact ovB O3.out)).mono ?_); rintro _ _ ⟨a9, c9, rfl, ⟨e9, rfl⟩, _⟩))
                  refine M2.TreeQ.mk (by (try unfold Ov); exact ovA) ?_
                  refine M2.tree_e (k := 7) rfl ?_ ?_
                  · go_wp2_with ((go_at_call 13; (with_reducible refine (HCut.out _ (by (try unfold Ov); exact ovB O3.out)).mono ?_); rintro _ _ ⟨a9, c9, rfl, ⟨e9, rfl⟩, _⟩))
                    refine M2.TreeQ.mk (by (try unfold Ov); exact ovA) ?_
                    refine M2.tree_q (k := 8) rfl rfl ?_
                    go_big_quiet_step (fail)
                    with_reducible refine wpQuiet_nil ?_
                    refine M2.tree_q (k := 9) rfl rfl ?_
                    go_big_quiet_step (fail)
                    with_reducible refine wpQuiet_nil ?_
                    refine M2.tree_q (k := 10) rfl rfl ?_
                    go_big_quiet_step (fail)
                    with_reducible refine wpQuiet_nil ?_
                    refine M2.tree_q (k := 11) rfl rfl ?_
                    go_big_quiet_step (fail)
                    with_reducible refine wpQuiet_nil ?_
                    refine M2.tree_e (k := 14) rfl ?_ ?_
                    · go_wp2_with ((go_at_call 13; (with_reducible refine (HCut.out _ (by (try unfold Ov); exact ovB O3.out)).mono ?_); rintro _ _ ⟨a9, c9, rfl, ⟨e9, rfl⟩, _⟩))
                      refine M2.TreeQ.mk (by (try unfold Ov); exact ovA) ?_
                      refine M2.tree_e (k := 15) rfl ?_ ?_
                      · go_wp2_with ((go_at_call 13; (with_reducible refine (HCut.out _ (by (try unfold Ov); exact ovB O3.out)).mono ?_); rintro _ _ ⟨a9, c9, rfl, ⟨e9, rfl⟩, _⟩))
                        refine M2.TreeQ.mk (by (try unfold Ov); exact ovA) ?_
                        refine M2.tree_q (k := 16) rfl rfl ?_
                        go_big_quiet_step (fail)
                        with_reducible refine wpQuiet_nil ?_
                        refine M2.tree_done ?_
                        obtain ⟨q1, hq1⟩ : ∃ q, q = (wr.heap.size) := ⟨_, rfl⟩
                        obtain ⟨q2, hq2⟩ : ∃ q, q = (wr.heap.size + 1) := ⟨_, rfl⟩
                        first | rw [← hq2, ← hq1] | rw [← hq1, ← hq2]
                        refine RgPost.mk q1 q2 a9 c9 rfl ?_
                        refine ⟨(by (try unfold Ov); exact ovA), Blk.to (by repeat (first | exact Blk.new' (by first | exact hq1 | (rw [hq1]; simp; done) | (rw [hq1]; simp; omega)) | with_reducible refine Blk.drew ?_ | with_reducible refine Blk.on ?_ _ | with_reducible refine Blk.alloc ?_ _ | with_reducible refine Blk.set ?_ _ _ | ((with_reducible refine Blk.set_ne ?_ ?_ _); rotate_left; (first | omega | (focus (simp; done)) | (focus (simp; omega)))))) rfl, Blk.to (by repeat (first | exact Blk.new' (by first | exact hq2 | (rw [hq2]; simp; done) | (rw [hq2]; simp; omega)) | with_reducible refine Blk.drew ?_ | with_reducible refine Blk.on ?_ _ | with_reducible refine Blk.alloc ?_ _ | with_reducible refine Blk.set ?_ _ _ | ((with_reducible refine Blk.set_ne ?_ ?_ _); rotate_left; (first | omega | (focus (simp; done)) | (focus (simp; omega)))))) rfl, ⟨by omega, by omega⟩⟩
                      exact M2.tree_no
                    exact M2.tree_no
                  exact M2.tree_no
                exact M2.tree_no
              refine M2.tree_e (k := 13) rfl ?_ ?_
              · go_wp2_with ((go_at_call 13; (with_reducible refine (HCut.out _ (by (try unfold Ov); exact ovB O3.out)).mono ?_); rintro _ _ ⟨a9, c9, rfl, ⟨e9, rfl⟩, _⟩))
                refine M2.TreeQ.mk (by (try unfold Ov); exact ovA) ?_
                refine M2.tree_e (k := 7) rfl ?_ ?_
                · go_wp2_with ((go_at_call 13; (with_reducible refine (HCut.out _ (by (try unfold Ov); exact ovB O3.out)).mono ?_); rintro _ _ ⟨a9, c9, rfl, ⟨e9, rfl⟩, _⟩))
                  refine M2.TreeQ.mk (by (try unfold Ov); exact ovA) ?_
                  refine M2.tree_q (k := 8) rfl rfl ?_
                  go_big_quiet_step (fail)
                  with_reducible refine wpQuiet_nil ?_
                  refine M2.tree_q (k := 9) rfl rfl ?_
                  go_big_quiet_step (fail)
                  with_reducible refine wpQuiet_nil ?_
                  refine M2.tree_q (k := 10) rfl rfl ?_
                  go_big_quiet_step (fail)
                  with_reducible refine wpQuiet_nil ?_
                  refine M2.tree_q (k := 11) rfl rfl ?_
                  go_big_quiet_step (fail)
                  with_reducible refine wpQuiet_nil ?_
                  refine M2.tree_e (k := 12) rfl ?_ ?_
                  · go_wp2_with ((go_at_call 13; (with_reducible refine (HCut.out _ (by (try unfold Ov); exact ovB O3.out)).mono ?_); rintro _ _ ⟨a9, c9, rfl, ⟨e9, rfl⟩, _⟩))
                    refine M2.TreeQ.mk (by (try unfold Ov); exact ovA) ?_
                    refine M2.tree_e (k := 14) rfl ?_ ?_
                    · go_wp2_with ((go_at_call 13; (with_reducible refine (HCut.out _ (by (try unfold Ov); exact ovB O3.out)).mono ?_); rintro _ _ ⟨a9, c9, rfl, ⟨e9, rfl⟩, _⟩))
                      refine M2.TreeQ.mk (by (try unfold Ov); exact ovA) ?_
                      refine M2.tree_e (k := 15) rfl ?_ ?_
                      · go_wp2_with ((go_at_call 13; (with_reducible refine (HCut.out _ (by (try unfold Ov); exact ovB O3.out)).mono ?_); rintro _ _ ⟨a9, c9, rfl, ⟨e9, rfl⟩, _⟩))
                        refine M2.TreeQ.mk (by (try unfold Ov); exact ovA) ?_
                        refine M2.tree_q (k := 16) rfl rfl ?_
                        go_big_quiet_step (fail)
                        with_reducible refine wpQuiet_nil ?_
                        refine M2.tree_done ?_
                        obtain ⟨q1, hq1⟩ : ∃ q, q = (wr.heap.size + 1 + e9.heap.size) := ⟨_, rfl⟩
                        obtain ⟨q2, hq2⟩ : ∃ q, q = (wr.heap.size) := ⟨_, rfl⟩
                        first | rw [← hq2, ← hq1] | rw [← hq1, ← hq2]
                        refine RgPost.mk q1 q2 a9 c9 rfl ?_
                        refine ⟨(by (try unfold Ov); exact ovA), Blk.to (by repeat (first | exact Blk.new' (by first | exact hq1 | (rw [hq1]; simp; done) | (rw [hq1]; simp; omega)) | with_reducible refine Blk.drew ?_ | with_reducible refine Blk.on ?_ _ | with_reducible refine Blk.alloc ?_ _ | with_reducible refine Blk.set ?_ _ _ | ((with_reducible refine Blk.set_ne ?_ ?_ _); rotate_left; (first | omega | (focus (simp; done)) | (focus (simp; omega)))))) rfl, Blk.to (by repeat (first | exact Blk.new' (by first | exact hq2 | (rw [hq2]; simp; done) | (rw [hq2]; simp; omega)) | with_reducible refine Blk.drew ?_ | with_reducible refine Blk.on ?_ _ | with_reducible refine Blk.alloc ?_ _ | with_reducible refine Blk.set ?_ _ _ | ((with_reducible refine Blk.set_ne ?_ ?_ _); rotate_left; (first | omega | (focus (simp; done)) | (focus (simp; omega)))))) rfl, ⟨by omega, by omega⟩⟩
                      exact M2.tree_no
                    exact M2.tree_no
                  exact M2.tree_no
                refine M2.tree_e (k := 12) rfl ?_ ?_
                · go_wp2_with ((go_at_call 13; (with_reducible refine (HCut.out _ (by (try unfold Ov); exact ovB O3.out)).mono ?_); rintro _ _ ⟨a9, c9, rfl, ⟨e9, rfl⟩, _⟩))
                  refine M2.TreeQ.mk (by (try unfold Ov); exact ovA) ?_
                  refine M2.tree_e (k := 7) rfl ?_ ?_
                  · go_wp2_with ((go_at_call 13; (with_reducible refine (HCut.out _ (by (try unfold Ov); exact ovB O3.out)).mono ?_); rintro _ _ ⟨a9, c9, rfl, ⟨e9, rfl⟩, _⟩))
                    refine M2.TreeQ.mk (by (try unfold Ov); exact ovA) ?_
                    refine M2.tree_q (k := 8) rfl rfl ?_
                    go_big_quiet_step (fail)
                    with_reducible refine wpQuiet_nil ?_
                    refine M2.tree_q (k := 9) rfl rfl ?_
                    go_big_quiet_step (fail)
                    with_reducible refine wpQuiet_nil ?_
                    refine M2.tree_q (k := 10) rfl rfl ?_
                    go_big_quiet_step (fail)
                    with_reducible refine wpQuiet_nil ?_
                    refine M2.tree_q (k := 11) rfl rfl ?_
                    go_big_quiet_step (fail)
                    with_reducible refine wpQuiet_nil ?_
                    refine M2.tree_e (k := 14) rfl ?_ ?_
                    · go_wp2_with ((go_at_call 13; (with_reducible refine (HCut.out _ (by (try unfold Ov); exact ovB O3.out)).mono ?_); rintro _ _ ⟨a9, c9, rfl, ⟨e9, rfl⟩, _⟩))
                      refine M2.TreeQ.mk (by (try unfold Ov); exact ovA) ?_
                      refine M2.tree_e (k := 15) rfl ?_ ?_
                      · go_wp2_with ((go_at_call 13; (with_reducible refine (HCut.out _ (by (try unfold Ov); exact ovB O3.out)).mono ?_); rintro _ _ ⟨a9, c9, rfl, ⟨e9, rfl⟩, _⟩))
                        refine M2.TreeQ.mk (by (try unfold Ov); exact ovA) ?_
                        refine M2.tree_q (k := 16) rfl rfl ?_
                        go_big_quiet_step (fail)
                        with_reducible refine wpQuiet_nil ?_
                        refine M2.tree_done ?_
                        obtain ⟨q1, hq1⟩ : ∃ q, q = (wr.heap.size + 1) := ⟨_, rfl⟩
                        obtain ⟨q2, hq2⟩ : ∃ q, q = (wr.heap.size) := ⟨_, rfl⟩
                        first | rw [← hq2, ← hq1] | rw [← hq1, ← hq2]
                        refine RgPost.mk q1 q2 a9 c9 rfl ?_
                        refine ⟨(by (try unfold Ov); exact ovA), Blk.to (by repeat (first | exact Blk.new' (by first | exact hq1 | (rw [hq1]; simp; done) | (rw [hq1]; simp; omega)) | with_reducible refine Blk.drew ?_ | with_reducible refine Blk.on ?_ _ | with_reducible refine Blk.alloc ?_ _ | with_reducible refine Blk.set ?_ _ _ | ((with_reducible refine Blk.set_ne ?_ ?_ _); rotate_left; (first | omega | (focus (simp; done)) | (focus (simp; omega)))))) rfl, Blk.to (by repeat (first | exact Blk.new' (by first | exact hq2 | (rw [hq2]; simp; done) | (rw [hq2]; simp; omega)) | with_reducible refine Blk.drew ?_ | with_reducible refine Blk.on ?_ _ | with_reducible refine Blk.alloc ?_ _ | with_reducible refine Blk.set ?_ _ _ | ((with_reducible refine Blk.set_ne ?_ ?_ _); rotate_left; (first | omega | (focus (simp; done)) | (focus (simp; omega)))))) rfl, ⟨by omega, by omega⟩⟩
                      exact M2.tree_no
                    exact M2.tree_no
                  exact M2.tree_no
                exact M2.tree_no
              exact M2.tree_no
            case h2 =>
              clear v0 v1 v2 vl x0 hbr
              intro q1 q2 a9 c9 w4 hv
              have O4 : Hid (∃ e, w4 = over W1 e) := hid (ov_tr O3.out hv.ov)
              have D4 : Hid (Blk w4 p14 [.int .u32 (pc : Nat), .int .u32 (pb : Nat), .int .u32 (pn : Nat)] 35) := hid (by obtain ⟨e, he⟩ := hv.ov; rw [he]; exact Blk.on D3.out e)
              have v0 := D4.out.cell 0 rfl
              have v1 := D4.out.cell 1 rfl
              have v2 := D4.out.cell 2 rfl
              have vf : ∀ j, w4.frozen? ⟨p14, j, none⟩ = false := fun j => D4.out.free j
              have vl := D4.out.lt
              have t0 := hv.t.cell 0 rfl
              have t1 := hv.t.cell 1 rfl
              have t2 := hv.t.cell 2 rfl
              have tl := hv.t.lt
              have hq2 : p14 < q2 := by have := hv.lo; have := D3.out.lt; omega
              have hq1 : p14 < q1 := by have := hv.lo; have := D3.out.lt; omega
              clear hv
              go_wp2
              go_roundw
              case rel =>
                exact ⟨n + 1, ⟨tc, tb, tn⟩, c2, cb2, HH2.out, by go_num, by omega, ((D4.out.set 0 _).set 1 _).set 2 _, (by (try unfold Ov); exact ovB O4.out)⟩
              case measure => (simp [intOf]; try omega)
          · obtain rfl : n = d := by omega
            obtain ⟨fi, g0, g1, g2, fk, fcl, fsm, fbi, bi, tc, tb, tn, hca, hcut⟩ := cut_all HL.out.bk HK.out.get HH.out (by omega) most hm
            have HCut := hid hcut
            obtain ⟨c2, cb2, hh2⟩ := hca.has
            have HH2 := hid hh2
            have hbeh := hca.beh
            have hfk := hca.fk
            have hbi := hca.bl
            have hb1 := behind_lo HH.out
            have hb2 := behind_lo hh2
            have hb3 := behind_hi HK.out.ok hcl (⟨pc, pb, pn⟩ : Pl)
            have HBp := hid (fun W (hW : ∃ e, W = over W1 e) => behind_any (bk_ov HL.out.bk hW) id (p := ⟨pc, pb, pn⟩) (by rw [HK.out.get]; exact HH.out) (by rw [HK.out.get]; omega))
            have HBt := hid (fun W (hW : ∃ e, W = over W1 e) => behind_any (bk_ov HL.out.bk hW) id (p := ⟨tc, tb, tn⟩) (by rw [HK.out.get]; exact hh2) (by rw [HK.out.get]; omega))
            rw [HK.out.get] at HBp HBt
            simp only [Pl.v] at HBp HBt
            obtain ⟨bh, hbh⟩ : ∃ x, s.behind ⟨pc, pb, pn⟩ = x := ⟨_, rfl⟩
            obtain ⟨bt, hbt⟩ : ∃ x, s.behind ⟨tc, tb, tn⟩ = x := ⟨_, rfl⟩
            rw [hbh, hbt] at hbeh
            rw [hbh] at hb1 hb3 HBp
            rw [hbt] at hb2 HBt
            have HCA := hid hca
            subst hbeh
            clear hcut hca hh2 hbh hbt
            go_wp2
            apply region_cut4 (F := fun q1 q2 a9 c9 w' => CutV wr w' q1 q2 [.int .u8 0, .int .u32 0, .int .u32 (fi : Nat), .int .u32 (g0 : Nat), .int .u32 (g1 : Nat), .int .u32 (g2 : Nat), .int .u32 (fk : Nat), .bool fcl, .int .u64 (fsm : Nat), .slice a9 (pack fbi).length c9, .int .i64 (bi : Nat)] [.int .u32 (tc : Nat), .int .u32 (tb : Nat), .int .u32 (tn : Nat)] 45 35)
            case h1 =>
              refine M2.wp_region_tree (fun w' => ∃ e : World, w' = over _ e) [8, 13, 14, 15, 16] (.q 0 (.q 1 (.q 2 (.q 3 (.q 4 (.q 5 (.q 6 (.q 7 (.e 8 (.q 9 (.q 10 (.q 11 (.q 12 (.e 13 (.e 14 (.e 15 (.e 16 (.q 17 .done) .no) .no) .no) (.e 14 (.e 13 (.e 15 (.e 16 (.q 17 .done) .no) .no) .no) .no)))))) (.e 13 (.e 8 (.q 9 (.q 10 (.q 11 (.q 12 (.e 14 (.e 15 (.e 16 (.q 17 .done) .no) .no) .no))))) (.e 14 (.e 8 (.q 9 (.q 10 (.q 11 (.q 12 (.e 15 (.e 16 (.q 17 .done) .no) .no))))) .no) .no)) (.e 14 (.e 8 (.q 9 (.q 10 (.q 11 (.q 12 (.e 13 (.e 15 (.e 16 (.q 17 .done) .no) .no) .no))))) (.e 13 (.e 8 (.q 9 (.q 10 (.q 11 (.q 12 (.e 15 (.e 16 (.q 17 .done) .no) .no))))) .no) .no)) .no))))))))))) (by kernel_rfl) (by kernel_rfl) (ex_drew (over_self _)) ?_
              refine M2.tree_q (k := 0) rfl rfl ?_
              go_big_quiet_step (fail)
              with_reducible refine wpQuiet_nil ?_
              refine M2.tree_q (k := 1) rfl rfl ?_
              go_big_quiet_step (fail)
              with_reducible refine wpQuiet_nil ?_
              refine M2.tree_q (k := 2) rfl rfl ?_
              go_big_quiet_step (fail)
              with_reducible refine wpQuiet_nil ?_
              refine M2.tree_q (k := 3) rfl rfl ?_
              go_big_quiet_step (fail)
              with_reducible refine wpQuiet_nil ?_
              refine M2.tree_q (k := 4) rfl rfl ?_
              go_big_quiet_step (fail)
              with_reducible refine wpQuiet_nil ?_
              refine M2.tree_q (k := 5) rfl rfl ?_
              go_big_quiet_step (fail)
              with_reducible refine wpQuiet_nil ?_
              refine M2.tree_q (k := 6) rfl rfl ?_
              go_big_quiet_step (fail)
              with_reducible refine wpQuiet_nil ?_
              refine M2.tree_q (k := 7) rfl rfl ?_
              go_big_quiet_step (fail)
              with_reducible refine wpQuiet_nil ?_
              refine M2.tree_e (k := 8) rfl ?_ ?_
              · go_wp2_with ((go_at_call 13; (with_reducible refine (HCut.out _ (by (try unfold Ov); exact ovB O3.out)).mono ?_); rintro _ _ ⟨a9, c9, rfl, ⟨e9, rfl⟩, _⟩))
                refine M2.TreeQ.mk (by (try unfold Ov); exact ovA) ?_
                refine M2.tree_q (k := 9) rfl rfl ?_
                go_big_quiet_step (fail)
                with_reducible refine wpQuiet_nil ?_
                refine M2.tree_q (k := 10) rfl rfl ?_
                go_big_quiet_step (fail)
                with_reducible refine wpQuiet_nil ?_
                refine M2.tree_q (k := 11) rfl rfl ?_
                go_big_quiet_step (fail)
                with_reducible refine wpQuiet_nil ?_
                refine M2.tree_q (k := 12) rfl rfl ?_
                go_big_quiet_step (fail)
                with_reducible refine wpQuiet_nil ?_
                refine M2.tree_e (k := 13) rfl ?_ ?_
                · go_wp2_with ((go_at_call 13; (with_reducible refine (HCut.out _ (by (try unfold Ov); exact ovB O3.out)).mono ?_); rintro _ _ ⟨a9, c9, rfl, ⟨e9, rfl⟩, _⟩))
                  refine M2.TreeQ.mk (by (try unfold Ov); exact ovA) ?_
                  refine M2.tree_e (k := 14) rfl ?_ ?_
                  · go_wp2_with ((go_at_call 13; (with_reducible refine (HCut.out _ (by (try unfold Ov); exact ovB O3.out)).mono ?_); rintro _ _ ⟨a9, c9, rfl, ⟨e9, rfl⟩, _⟩))
                    refine M2.TreeQ.mk (by (try unfold Ov); exact ovA) ?_
                    refine M2.tree_e (k := 15) rfl ?_ ?_
                    · go_wp2_with ((go_at_call 13; (with_reducible refine (HCut.out _ (by (try unfold Ov); exact ovB O3.out)).mono ?_); rintro _ _ ⟨a9, c9, rfl, ⟨e9, rfl⟩, _⟩))
                      refine M2.TreeQ.mk (by (try unfold Ov); exact ovA) ?_
                      refine M2.tree_e (k := 16) rfl ?_ ?_
                      · go_wp2_with ((go_at_call 13; (with_reducible refine (HCut.out _ (by (try unfold Ov); exact ovB O3.out)).mono ?_); rintro _ _ ⟨a9, c9, rfl, ⟨e9, rfl⟩, _⟩))
                        refine M2.TreeQ.mk (by (try unfold Ov); exact ovA) ?_
                        refine M2.tree_q (k := 17) rfl rfl ?_
                        go_big_quiet_step (fail)
                        with_reducible refine wpQuiet_nil ?_
                        refine M2.tree_done ?_
                        obtain ⟨q1, hq1⟩ : ∃ q, q = (wr.heap.size + e9.heap.size) := ⟨_, rfl⟩
                        obtain ⟨q2, hq2⟩ : ∃ q, q = (wr.heap.size + e9.heap.size + 1) := ⟨_, rfl⟩
                        first | rw [← hq2, ← hq1] | rw [← hq1, ← hq2]
                        refine RgPost.mk q1 q2 a9 c9 rfl ?_
                        refine ⟨(by (try unfold Ov); exact ovA), Blk.to (by repeat (first | exact Blk.new' (by first | exact hq1 | (rw [hq1]; simp; done) | (rw [hq1]; simp; omega)) | with_reducible refine Blk.drew ?_ | with_reducible refine Blk.on ?_ _ | with_reducible refine Blk.alloc ?_ _ | with_reducible refine Blk.set ?_ _ _ | ((with_reducible refine Blk.set_ne ?_ ?_ _); rotate_left; (first | omega | (focus (simp; done)) | (focus (simp; omega)))))) rfl, Blk.to (by repeat (first | exact Blk.new' (by first | exact hq2 | (rw [hq2]; simp; done) | (rw [hq2]; simp; omega)) | with_reducible refine Blk.drew ?_ | with_reducible refine Blk.on ?_ _ | with_reducible refine Blk.alloc ?_ _ | with_reducible refine Blk.set ?_ _ _ | ((with_reducible refine Blk.set_ne ?_ ?_ _); rotate_left; (first | omega | (focus (simp; done)) | (focus (simp; omega)))))) rfl, ⟨by omega, by omega⟩⟩
                      exact M2.tree_no
                    exact M2.tree_no
                  exact M2.tree_no
                refine M2.tree_e (k := 14) rfl ?_ ?_
                · go_wp2_with ((go_at_call 13; (with_reducible refine (HCut.out _ (by (try unfold Ov); exact ovB O3.out)).mono ?_); rintro _ _ ⟨a9, c9, rfl, ⟨e9, rfl⟩, _⟩))
                  refine M2.TreeQ.mk (by (try unfold Ov); exact ovA) ?_
                  refine M2.tree_e (k := 13) rfl ?_ ?_
                  · go_wp2_with ((go_at_call 13; (with_reducible refine (HCut.out _ (by (try unfold Ov); exact ovB O3.out)).mono ?_); rintro _ _ ⟨a9, c9, rfl, ⟨e9, rfl⟩, _⟩))
                    refine M2.TreeQ.mk (by (try unfold Ov); exact ovA) ?_
                    refine M2.tree_e (k := 15) rfl ?_ ?_
                    · go_wp2_with ((go_at_call 13; (with_reducible refine (HCut.out _ (by (try unfold Ov); exact ovB O3.out)).mono ?_); rintro _ _ ⟨a9, c9, rfl, ⟨e9, rfl⟩, _⟩))
                      refine M2.TreeQ.mk (by (try unfold Ov); exact ovA) ?_
                      refine M2.tree_e (k := 16) rfl ?_ ?_
                      · go_wp2_with ((go_at_call 13; (with_reducible refine (HCut.out _ (by (try unfold Ov); exact ovB O3.out)).mono ?_); rintro _ _ ⟨a9, c9, rfl, ⟨e9, rfl⟩, _⟩))
                        refine M2.TreeQ.mk (by (try unfold Ov); exact ovA) ?_
                        refine M2.tree_q (k := 17) rfl rfl ?_
                        go_big_quiet_step (fail)
                        with_reducible refine wpQuiet_nil ?_
                        refine M2.tree_done ?_
                        obtain ⟨q1, hq1⟩ : ∃ q, q = (wr.heap.size + e9.heap.size + 1) := ⟨_, rfl⟩
                        obtain ⟨q2, hq2⟩ : ∃ q, q = (wr.heap.size + e9.heap.size) := ⟨_, rfl⟩
                        first | rw [← hq2, ← hq1] | rw [← hq1, ← hq2]
                        refine RgPost.mk q1 q2 a9 c9 rfl ?_
                        refine ⟨(by (try unfold Ov); exact ovA), Blk.to (by repeat (first | exact Blk.new' (by first | exact hq1 | (rw [hq1]; simp; done) | (rw [hq1]; simp; omega)) | with_reducible refine Blk.drew ?_ | with_reducible refine Blk.on ?_ _ | with_reducible refine Blk.alloc ?_ _ | with_reducible refine Blk.set ?_ _ _ | ((with_reducible refine Blk.set_ne ?_ ?_ _); rotate_left; (first | omega | (focus (simp; done)) | (focus (simp; omega)))))) rfl, Blk.to (by repeat (first | exact Blk.new' (by first | exact hq2 | (rw [hq2]; simp; done) | (rw [hq2]; simp; omega)) | with_reducible refine Blk.drew ?_ | with_reducible refine Blk.on ?_ _ | with_reducible refine Blk.alloc ?_ _ | with_reducible refine Blk.set ?_ _ _ | ((with_reducible refine Blk.set_ne ?_ ?_ _); rotate_left; (first | omega | (focus (simp; done)) | (focus (simp; omega)))))) rfl, ⟨by omega, by omega⟩⟩
                      exact M2.tree_no
                    exact M2.tree_no
                  exact M2.tree_no
                exact M2.tree_no
              refine M2.tree_e (k := 13) rfl ?_ ?_
              · go_wp2_with ((go_at_call 13; (with_reducible refine (HCut.out _ (by (try unfold Ov); exact ovB O3.out)).mono ?_); rintro _ _ ⟨a9, c9, rfl, ⟨e9, rfl⟩, _⟩))
                refine M2.TreeQ.mk (by (try unfold Ov); exact ovA) ?_
                refine M2.tree_e (k := 8) rfl ?_ ?_
                · go_wp2_with ((go_at_call 13; (with_reducible refine (HCut.out _ (by (try unfold Ov); exact ovB O3.out)).mono ?_); rintro _ _ ⟨a9, c9, rfl, ⟨e9, rfl⟩, _⟩))
                  refine M2.TreeQ.mk (by (try unfold Ov); exact ovA) ?_
                  refine M2.tree_q (k := 9) rfl rfl ?_
                  go_big_quiet_step (fail)
                  with_reducible refine wpQuiet_nil ?_
                  refine M2.tree_q (k := 10) rfl rfl ?_
                  go_big_quiet_step (fail)
                  with_reducible refine wpQuiet_nil ?_
                  refine M2.tree_q (k := 11) rfl rfl ?_
                  go_big_quiet_step (fail)
                  with_reducible refine wpQuiet_nil ?_
                  refine M2.tree_q (k := 12) rfl rfl ?_
                  go_big_quiet_step (fail)
                  with_reducible refine wpQuiet_nil ?_
                  refine M2.tree_e (k := 14) rfl ?_ ?_
                  · go_wp2_with ((go_at_call 13; (with_reducible refine (HCut.out _ (by (try unfold Ov); exact ovB O3.out)).mono ?_); rintro _ _ ⟨a9, c9, rfl, ⟨e9, rfl⟩, _⟩))
                    refine M2.TreeQ.mk (by (try unfold Ov); exact ovA) ?_
                    refine M2.tree_e (k := 15) rfl ?_ ?_
                    · go_wp2_with ((go_at_call 13; (with_reducible refine (HCut.out _ (by (try unfold Ov); exact ovB O3.out)).mono ?_); rintro _ _ ⟨a9, c9, rfl, ⟨e9, rfl⟩, _⟩))
                      refine M2.TreeQ.mk (by (try unfold Ov); exact ovA) ?_
                      refine M2.tree_e (k := 16) rfl ?_ ?_
                      · go_wp2_with ((go_at_call 13; (with_reducible refine (HCut.out _ (by (try unfold Ov); exact ovB O3.out)).mono ?_); rintro _ _ ⟨a9, c9, rfl, ⟨e9, rfl⟩, _⟩))
                        refine M2.TreeQ.mk (by (try unfold Ov); exact ovA) ?_
                        refine M2.tree_q (k := 17) rfl rfl ?_
                        go_big_quiet_step (fail)
                        with_reducible refine wpQuiet_nil ?_
                        refine M2.tree_done ?_
                        obtain ⟨q1, hq1⟩ : ∃ q, q = (wr.heap.size) := ⟨_, rfl⟩
                        obtain ⟨q2, hq2⟩ : ∃ q, q = (wr.heap.size + 1 + e9.heap.size) := ⟨_, rfl⟩
                        first | rw [← hq2, ← hq1] | rw [← hq1, ← hq2]
                        refine RgPost.mk q1 q2 a9 c9 rfl ?_
                        refine ⟨(by (try unfold Ov); exact ovA), Blk.to (by repeat (first | exact Blk.new' (by first | exact hq1 | (rw [hq1]; simp; done) | (rw [hq1]; simp; omega)) | with_reducible refine Blk.drew ?_ | with_reducible refine Blk.on ?_ _ | with_reducible refine Blk.alloc ?_ _ | with_reducible refine Blk.set ?_ _ _ | ((with_reducible refine Blk.set_ne ?_ ?_ _); rotate_left; (first | omega | (focus (simp; done)) | (focus (simp; omega)))))) rfl, Blk.to (by repeat (first | exact Blk.new' (by first | exact hq2 | (rw [hq2]; simp; done) | (rw [hq2]; simp; omega)) | with_reducible refine Blk.drew ?_ | with_reducible refine Blk.on ?_ _ | with_reducible refine Blk.alloc ?_ _ | with_reducible refine Blk.set ?_ _ _ | ((with_reducible refine Blk.set_ne ?_ ?_ _); rotate_left; (first | omega | (focus (simp; done)) | (focus (simp; omega)))))) rfl, ⟨by omega, by omega⟩⟩
                      exact M2.tree_no
                    exact M2.tree_no
                  exact M2.tree_no
                refine M2.tree_e (k := 14) rfl ?_ ?_
                · go_wp2_with ((go_at_call 13; (with_reducible refine (HCut.out _ (by (try unfold Ov); exact ovB O3.out)).mono ?_); rintro _ _ ⟨a9, c9, rfl, ⟨e9, rfl⟩, _⟩))
                  refine M2.TreeQ.mk (by (try unfold Ov); exact ovA) ?_
                  refine M2.tree_e (k := 8) rfl ?_ ?_
                  · go_wp2_with ((go_at_call 13; (with_reducible refine (HCut.out _ (by (try unfold Ov); exact ovB O3.out)).mono ?_); rintro _ _ ⟨a9, c9, rfl, ⟨e9, rfl⟩, _⟩))
                    refine M2.TreeQ.mk (by (try unfold Ov); exact ovA) ?_
                    refine M2.tree_q (k := 9) rfl rfl ?_
                    go_big_quiet_step (fail)
                    with_reducible refine wpQuiet_nil ?_
                    refine M2.tree_q (k := 10) rfl rfl ?_
                    go_big_quiet_step (fail)
                    with_reducible refine wpQuiet_nil ?_
                    refine M2.tree_q (k := 11) rfl rfl ?_
                    go_big_quiet_step (fail)
                    with_reducible refine wpQuiet_nil ?_
                    refine M2.tree_q (k := 12) rfl rfl ?_
                    go_big_quiet_step (fail)
                    with_reducible refine wpQuiet_nil ?_
                    refine M2.tree_e (k := 15) rfl ?_ ?_
                    · go_wp2_with ((go_at_call 13; (with_reducible refine (HCut.out _ (by (try unfold Ov); exact ovB O3.out)).mono ?_); rintro _ _ ⟨a9, c9, rfl, ⟨e9, rfl⟩, _⟩))
                      refine M2.TreeQ.mk (by (try unfold Ov); exact ovA) ?_
                      refine M2.tree_e (k := 16) rfl ?_ ?_
                      · go_wp2_with ((go_at_call 13; (with_reducible refine (HCut.out _ (by (try unfold Ov); exact ovB O3.out)).mono ?_); rintro _ _ ⟨a9, c9, rfl, ⟨e9, rfl⟩, _⟩))
                        refine M2.TreeQ.mk (by (try unfold Ov); exact ovA) ?_
                        refine M2.tree_q (k := 17) rfl rfl ?_
                        go_big_quiet_step (fail)
                        with_reducible refine wpQuiet_nil ?_
                        refine M2.tree_done ?_
                        obtain ⟨q1, hq1⟩ : ∃ q, q = (wr.heap.size) := ⟨_, rfl⟩
                        obtain ⟨q2, hq2⟩ : ∃ q, q = (wr.heap.size + 1) := ⟨_, rfl⟩
                        first | rw [← hq2, ← hq1] | rw [← hq1, ← hq2]
                        refine RgPost.mk q1 q2 a9 c9 rfl ?_
                        refine ⟨(by (try unfold Ov); exact ovA), Blk.to (by repeat (first | exact Blk.new' (by first | exact hq1 | (rw [hq1]; simp; done) | (rw [hq1]; simp; omega)) | with_reducible refine Blk.drew ?_ | with_reducible refine Blk.on ?_ _ | with_reducible refine Blk.alloc ?_ _ | with_reducible refine Blk.set ?_ _ _ | ((with_reducible refine Blk.set_ne ?_ ?_ _); rotate_left; (first | omega | (focus (simp; done)) | (focus (simp; omega)))))) rfl, Blk.to (by repeat (first | exact Blk.new' (by first | exact hq2 | (rw [hq2]; simp; done) | (rw [hq2]; simp; omega)) | with_reducible refine Blk.drew ?_ | with_reducible refine Blk.on ?_ _ | with_reducible refine Blk.alloc ?_ _ | with_reducible refine Blk.set ?_ _ _ | ((with_reducible refine Blk.set_ne ?_ ?_ _); rotate_left; (first | omega | (focus (simp; done)) | (focus (simp; omega)))))) rfl, ⟨by omega, by omega⟩⟩
                      exact M2.tree_no
                    exact M2.tree_no
                  exact M2.tree_no
                exact M2.tree_no
              refine M2.tree_e (k := 14) rfl ?_ ?_
              · go_wp2_with ((go_at_call 13; (with_reducible refine (HCut.out _ (by (try unfold Ov); exact ovB O3.out)).mono ?_); rintro _ _ ⟨a9, c9, rfl, ⟨e9, rfl⟩, _⟩))
                refine M2.TreeQ.mk (by (try unfold Ov); exact ovA) ?_
                refine M2.tree_e (k := 8) rfl ?_ ?_
                · go_wp2_with ((go_at_call 13; (with_reducible refine (HCut.out _ (by (try unfold Ov); exact ovB O3.out)).mono ?_); rintro _ _ ⟨a9, c9, rfl, ⟨e9, rfl⟩, _⟩))
                  refine M2.TreeQ.mk (by (try unfold Ov); exact ovA) ?_
                  refine M2.tree_q (k := 9) rfl rfl ?_
                  go_big_quiet_step (fail)
                  with_reducible refine wpQuiet_nil ?_
                  refine M2.tree_q (k := 10) rfl rfl ?_
                  go_big_quiet_step (fail)
                  with_reducible refine wpQuiet_nil ?_
                  refine M2.tree_q (k := 11) rfl rfl ?_
                  go_big_quiet_step (fail)
                  with_reducible refine wpQuiet_nil ?_
                  refine M2.tree_q (k := 12) rfl rfl ?_
                  go_big_quiet_step (fail)
                  with_reducible refine wpQuiet_nil ?_
                  refine M2.tree_e (k := 13) rfl ?_ ?_
                  · go_wp2_with ((go_at_call 13; (with_reducible refine (HCut.out _ (by (try unfold Ov); exact ovB O3.out)).mono ?_); rintro _ _ ⟨a9, c9, rfl, ⟨e9, rfl⟩, _⟩))
                    refine M2.TreeQ.mk (by (try unfold Ov); exact ovA) ?_
                    refine M2.tree_e (k := 15) rfl ?_ ?_
                    · go_wp2_with ((go_at_call 13; (with_reducible refine (HCut.out _ (by (try unfold Ov); exact ovB O3.out)).mono ?_); rintro _ _ ⟨a9, c9, rfl, ⟨e9, rfl⟩, _⟩))
                      refine M2.TreeQ.mk (by (try unfold Ov); exact ovA) ?_
                      refine M2.tree_e (k := 16) rfl ?_ ?_
                      · go_wp2_with ((go_at_call 13; (with_reducible refine (HCut.out _ (by (try unfold Ov); exact ovB O3.out)).mono ?_); rintro _ _ ⟨a9, c9, rfl, ⟨e9, rfl⟩, _⟩))
                        refine M2.TreeQ.mk (by (try unfold Ov); exact ovA) ?_
                        refine M2.tree_q (k := 17) rfl rfl ?_
                        go_big_quiet_step (fail)
                        with_reducible refine wpQuiet_nil ?_
                        refine M2.tree_done ?_
                        obtain ⟨q1, hq1⟩ : ∃ q, q = (wr.heap.size + 1 + e9.heap.size) := ⟨_, rfl⟩
                        obtain ⟨q2, hq2⟩ : ∃ q, q = (wr.heap.size) := ⟨_, rfl⟩
                        first | rw [← hq2, ← hq1] | rw [← hq1, ← hq2]
                        refine RgPost.mk q1 q2 a9 c9 rfl ?_
                        refine ⟨(by (try unfold Ov); exact ovA), Blk.to (by repeat (first | exact Blk.new' (by first | exact hq1 | (rw [hq1]; simp; done) | (rw [hq1]; simp; omega)) | with_reducible refine Blk.drew ?_ | with_reducible refine Blk.on ?_ _ | with_reducible refine Blk.alloc ?_ _ | with_reducible refine Blk.set ?_ _ _ | ((with_reducible refine Blk.set_ne ?_ ?_ _); rotate_left; (first | omega | (focus (simp; done)) | (focus (simp; omega)))))) rfl, Blk.to (by repeat (first | exact Blk.new' (by first | exact hq2 | (rw [hq2]; simp; done) | (rw [hq2]; simp; omega)) | with_reducible refine Blk.drew ?_ | with_reducible refine Blk.on ?_ _ | with_reducible refine Blk.alloc ?_ _ | with_reducible refine Blk.set ?_ _ _ | ((with_reducible refine Blk.set_ne ?_ ?_ _); rotate_left; (first | omega | (focus (simp; done)) | (focus (simp; omega)))))) rfl, ⟨by omega, by omega⟩⟩
                      exact M2.tree_no
                    exact M2.tree_no
                  exact M2.tree_no
                refine M2.tree_e (k := 13) rfl ?_ ?_
                · go_wp2_with ((go_at_call 13; (with_reducible refine (HCut.out _ (by (try unfold Ov); exact ovB O3.out)).mono ?_); rintro _ _ ⟨a9, c9, rfl, ⟨e9, rfl⟩, _⟩))
                  refine M2.TreeQ.mk (by (try unfold Ov); exact ovA) ?_
                  refine M2.tree_e (k := 8) rfl ?_ ?_
                  · go_wp2_with ((go_at_call 13; (with_reducible refine (HCut.out _ (by (try unfold Ov); exact ovB O3.out)).mono ?_); rintro _ _ ⟨a9, c9, rfl, ⟨e9, rfl⟩, _⟩))
                    refine M2.TreeQ.mk (by (try unfold Ov); exact ovA) ?_
                    refine M2.tree_q (k := 9) rfl rfl ?_
                    go_big_quiet_step (fail)
                    with_reducible refine wpQuiet_nil ?_
                    refine M2.tree_q (k := 10) rfl rfl ?_
                    go_big_quiet_step (fail)
                    with_reducible refine wpQuiet_nil ?_
                    refine M2.tree_q (k := 11) rfl rfl ?_
                    go_big_quiet_step (fail)
                    with_reducible refine wpQuiet_nil ?_
                    refine M2.tree_q (k := 12) rfl rfl ?_
                    go_big_quiet_step (fail)
                    with_reducible refine wpQuiet_nil ?_
                    refine M2.tree_e (k := 15) rfl ?_ ?_
                    · go_wp2_with ((go_at_call 13; (with_reducible refine (HCut.out _ (by (try unfold Ov); exact ovB O3.out)).mono ?_); rintro _ _ ⟨a9, c9, rfl, ⟨e9, rfl⟩, _⟩))
                      refine M2.TreeQ.mk (by (try unfold Ov); exact ovA) ?_
                      refine M2.tree_e (k := 16) rfl ?_ ?_
                      · go_wp2_with ((go_at_call 13; (with_reducible refine (HCut.out _ (by (try unfold Ov); exact ovB O3.out)).mono ?_); rintro _ _ ⟨a9, c9, rfl, ⟨e9, rfl⟩, _⟩))
                        refine M2.TreeQ.mk (by (try unfold Ov); exact ovA) ?_
                        refine M2.tree_q (k := 17) rfl rfl ?_
                        go_big_quiet_step (fail)
                        with_reducible refine wpQuiet_nil ?_
                        refine M2.tree_done ?_
                        obtain ⟨q1, hq1⟩ : ∃ q, q = (wr.heap.size + 1) := ⟨_, rfl⟩
                        obtain ⟨q2, hq2⟩ : ∃ q, q = (wr.heap.size) := ⟨_, rfl⟩
                        first | rw [← hq2, ← hq1] | rw [← hq1, ← hq2]
                        refine RgPost.mk q1 q2 a9 c9 rfl ?_
                        refine ⟨(by (try unfold Ov); exact ovA), Blk.to (by repeat (first | exact Blk.new' (by first | exact hq1 | (rw [hq1]; simp; done) | (rw [hq1]; simp; omega)) | with_reducible refine Blk.drew ?_ | with_reducible refine Blk.on ?_ _ | with_reducible refine Blk.alloc ?_ _ | with_reducible refine Blk.set ?_ _ _ | ((with_reducible refine Blk.set_ne ?_ ?_ _); rotate_left; (first | omega | (focus (simp; done)) | (focus (simp; omega)))))) rfl, Blk.to (by repeat (first | exact Blk.new' (by first | exact hq2 | (rw [hq2]; simp; done) | (rw [hq2]; simp; omega)) | with_reducible refine Blk.drew ?_ | with_reducible refine Blk.on ?_ _ | with_reducible refine Blk.alloc ?_ _ | with_reducible refine Blk.set ?_ _ _ | ((with_reducible refine Blk.set_ne ?_ ?_ _); rotate_left; (first | omega | (focus (simp; done)) | (focus (simp; omega)))))) rfl, ⟨by omega, by omega⟩⟩
                      exact M2.tree_no
                    exact M2.tree_no
                  exact M2.tree_no
                exact M2.tree_no
              exact M2.tree_no
            case h2 =>
              have X0 := hid x0
              clear v0 v1 v2 vl x0 hbr
              intro q1 q2 a9 c9 w4 hv
              have O4 : Hid (∃ e, w4 = over W1 e) := hid (ov_tr O3.out hv.ov)
              have D4 : Hid (Blk w4 p14 [.int .u32 (pc : Nat), .int .u32 (pb : Nat), .int .u32 (pn : Nat)] 35) := hid (by obtain ⟨e, he⟩ := hv.ov; rw [he]; exact Blk.on D3.out e)
              have v0 := D4.out.cell 0 rfl
              have v1 := D4.out.cell 1 rfl
              have v2 := D4.out.cell 2 rfl
              have vf : ∀ j, w4.frozen? ⟨p14, j, none⟩ = false := fun j => D4.out.free j
              have vl := D4.out.lt
              have t0 := hv.t.cell 0 rfl
              have t1 := hv.t.cell 1 rfl
              have t2 := hv.t.cell 2 rfl
              have tl := hv.t.lt
              have hq2 : p14 < q2 := by have := hv.lo; have := D3.out.lt; omega
              have hq1 : p14 < q1 := by have := hv.lo; have := D3.out.lt; omega
              have f3 := hv.f.cell 3 rfl
              have f4 := hv.f.cell 4 rfl
              have f5 := hv.f.cell 5 rfl
              have f6 := hv.f.cell 6 rfl
              have f10 := hv.f.cell 10 rfl
              have fl := hv.f.lt
              have x0 : w4.cell? ⟨bl, off + k * 2, none⟩ = some (.int .u32 (id : Nat)) := by obtain ⟨e, he⟩ := O4.out; rw [he, cell_over _ _ _ _ hbl]; exact HX0.out
              have hbr : bl < w4.heap.size := by obtain ⟨e, he⟩ := O4.out; rw [he]; simp; omega
              clear hv vf X0
              go_wp2
              refine M2.wp_region_mix [7] 13 (by kernel_rfl) (by kernel_rfl) (by decide) ?_
              simp only [List.take_succ_cons, List.take_zero, List.drop_succ_cons, List.drop_zero]
              with_reducible refine M2.mixL_quiet 7 (by kernel_rfl) ?_
              simp only [List.take_succ_cons, List.take_zero, List.drop_succ_cons, List.drop_zero]
              repeat (go_big_quiet_step (fail))
              with_reducible refine wpQuiet_nil ?_
              with_reducible refine M2.mixL_eff (by decide) ?_
              go_wp2_with ((go_at_call 11; (with_reducible refine (HBp.out _ (by (try unfold Ov); exact ovB O4.out)).mono ?_); rintro _ _ ⟨⟨e5, rfl⟩, rfl⟩))
              refine M2.MixQ.mk (by (try unfold Ov); exact ovA) ?_
              with_reducible refine M2.mixL_quiet 5 (by kernel_rfl) ?_
              simp only [List.take_succ_cons, List.take_zero, List.drop_succ_cons, List.drop_zero]
              repeat (go_big_quiet_step (fail))
              with_reducible refine wpQuiet_nil ?_
              with_reducible refine M2.mixL_nil ?_
              with_reducible refine M2.mixL_nil ?_
              go_wp2
              refine M2.wp_region_mix [7] 13 (by kernel_rfl) (by kernel_rfl) (by decide) ?_
              simp only [List.take_succ_cons, List.take_zero, List.drop_succ_cons, List.drop_zero]
              with_reducible refine M2.mixL_quiet 7 (by kernel_rfl) ?_
              simp only [List.take_succ_cons, List.take_zero, List.drop_succ_cons, List.drop_zero]
              repeat (go_big_quiet_step (fail))
              with_reducible refine wpQuiet_nil ?_
              with_reducible refine M2.mixL_eff (by decide) ?_
              go_wp2_with ((go_at_call 11; (with_reducible refine (HBt.out _ (by (try unfold Ov); exact ovB O4.out)).mono ?_); rintro _ _ ⟨⟨e6, rfl⟩, rfl⟩))
              refine M2.MixQ.mk (by (try unfold Ov); exact ovA) ?_
              with_reducible refine M2.mixL_quiet 5 (by kernel_rfl) ?_
              simp only [List.take_succ_cons, List.take_zero, List.drop_succ_cons, List.drop_zero]
              repeat (go_big_quiet_step (fail))
              with_reducible refine wpQuiet_nil ?_
              with_reducible refine M2.mixL_nil ?_
              with_reducible refine M2.mixL_nil ?_
              go_wp2
              by_cases hp : (⟨pc, pb, pn⟩ : Pl) = s.fin
              · obtain ⟨ht, hf0⟩ := HCA.out.fin hp
                simp only [Pl.mk.injEq] at ht
                obtain ⟨rfl, rfl, rfl⟩ := ht
                subst hf0
                rw [HFin.out] at hp
                simp only [Pl.mk.injEq] at hp
                obtain ⟨rfl, rfl, rfl⟩ := hp
                refine M2.wp_region_mix [7] 9 (by kernel_rfl) (by kernel_rfl) (by decide) ?_
                simp only [List.take_succ_cons, List.take_zero, List.drop_succ_cons, List.drop_zero]
                with_reducible refine M2.mixL_quiet 7 (by kernel_rfl) ?_
                simp only [List.take_succ_cons, List.take_zero, List.drop_succ_cons, List.drop_zero]
                repeat (go_big_quiet_step (fail))
                with_reducible refine wpQuiet_nil ?_
                with_reducible refine M2.mixL_eff (by decide) ?_
                go_wp2_with ((go_at_call 12; (with_reducible refine (HEnd.out _ (by (try unfold Ov); exact ovB O4.out)).mono ?_); rintro _ _ ⟨⟨e7, rfl⟩, rfl⟩))
                refine M2.MixQ.mk (by (try unfold Ov); exact ovA) ?_
                with_reducible refine M2.mixL_quiet 1 (by kernel_rfl) ?_
                simp only [List.take_succ_cons, List.take_zero, List.drop_succ_cons, List.drop_zero]
                repeat (go_big_quiet_step (fail))
                with_reducible refine wpQuiet_nil ?_
                with_reducible refine M2.mixL_nil ?_
                with_reducible refine M2.mixL_nil ?_
                go_wp2
                go_roundw
                case rel => exact ⟨k + 1, by omega, by go_num, (by (try unfold Ov); exact ovB O4.out)⟩
                case measure => (simp [intOf]; try omega)
              · obtain ⟨rfl, hlt2, hmo⟩ := HCA.out.on hp
                have hne := hp
                rw [HFin.out] at hne
                obtain ⟨hne2, hne3, hne4, hne5, hne6, hne7⟩ := pl_ne hne
                simp only at hlt2 hmo
                clear hne
                refine M2.wp_region_mix [7] 9 (by kernel_rfl) (by kernel_rfl) (by decide) ?_
                simp only [List.take_succ_cons, List.take_zero, List.drop_succ_cons, List.drop_zero]
                with_reducible refine M2.mixL_quiet 7 (by kernel_rfl) ?_
                simp only [List.take_succ_cons, List.take_zero, List.drop_succ_cons, List.drop_zero]
                repeat (go_big_quiet_step (fail))
                with_reducible refine wpQuiet_nil ?_
                with_reducible refine M2.mixL_eff (by decide) ?_
                go_wp2_with ((go_at_call 12; (with_reducible refine (HEnd.out _ (by (try unfold Ov); exact ovB O4.out)).mono ?_); rintro _ _ ⟨⟨e7, rfl⟩, rfl⟩))
                refine M2.MixQ.mk (by (try unfold Ov); exact ovA) ?_
                with_reducible refine M2.mixL_quiet 1 (by kernel_rfl) ?_
                simp only [List.take_succ_cons, List.take_zero, List.drop_succ_cons, List.drop_zero]
                repeat (go_big_quiet_step (fail))
                with_reducible refine wpQuiet_nil ?_
                with_reducible refine M2.mixL_nil ?_
                with_reducible refine M2.mixL_nil ?_
                go_wp2
                all_goals first
                  | exact ⟨⟨k + 1, by omega, by go_num, (by (try unfold Ov); exact ovB O4.out)⟩, by simp [intOf]; try omega⟩
                  | (exfalso
                     rename_i h1 h2
                     rcases h2 with h2 | h2
                     · omega
                     · have h3 : fk = g2 + 1 := by omega
                       rw [h3] at h2
                       simp at h2)
      · obtain rfl : k = rs.length := by omega
        go_wp2
        go_ret
        exact ⟨(by (try unfold Ov); exact ovB O1.out), rfl⟩
end Go.Proofs.YtlmfcghlbingjaaDoor
