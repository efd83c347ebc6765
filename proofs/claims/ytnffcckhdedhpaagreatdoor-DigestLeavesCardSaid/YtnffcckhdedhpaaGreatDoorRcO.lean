import Derived.Test.YtnffcckhdedhpaaGreatDoorGM
import Derived.Test.YtnffcckhdedhpaaGreatDoorGL
import Derived.Test.YtnffcckhdedhpaaGreatDoorGA
namespace Go.Proofs.YtnffcckhdedhpaaGreatDoor
set_option linter.unusedVariables false
set_option linter.unusedSimpArgs false
set_option maxRecDepth 100000
set_option maxHeartbeats 8000000
open Go.RowKit
attribute [local go_sem] odr cdr
section
variable {W : World} {p3 p4 : Nat} {u0 u1 v0 v1 v2 v3 v4 v5 v6 : Value}
theorem rof_old {q : Nat} {cs : List Value} {t : TypeId} (h : Blk W q cs t) (n3 : ¬ q = p3) (n4 : ¬ q = p4) : Blk (((((((((W.setCell ⟨p3, 0, none⟩ u0).setCell ⟨p3, 1, none⟩ u1).setCell ⟨p4, 0, none⟩ v0).setCell ⟨p4, 1, none⟩ v1).setCell ⟨p4, 2, none⟩ v2).setCell ⟨p4, 3, none⟩ v3).setCell ⟨p4, 4, none⟩ v4).setCell ⟨p4, 5, none⟩ v5).setCell ⟨p4, 6, none⟩ v6) q cs t :=
 Blk.set_ne (Blk.set_ne (Blk.set_ne (Blk.set_ne (Blk.set_ne (Blk.set_ne (Blk.set_ne (Blk.set_ne (Blk.set_ne h n3 _) n3 _) n4 _) n4 _) n4 _) n4 _) n4 _) n4 _) n4 _
theorem rof_next {w : World} {p1 p2 : Nat} {xs : List Sm} {k : Nat} {a3 a7 : Option Addr} {c3 c7 : Nat} {L' : List Bool} {t' : En} {t0 : En} {L0 : List Bool} (hov : ∃ e, W = over w e) (hg : goodC En.zero (xs.take (k + 1))) (hL : bitsC En.zero (xs.take (k + 1)) = L') (ht : knowC En.zero (xs.take (k + 1)) = t')
    (b1 : Blk W p1 [.slice none 0 0, .int .i64 0] 49) (b2 : Blk W p2 En.zero.cs 111) (b3 : Blk W p3 [.slice a3 (pack L0).length c3, .int .i64 (L0.length : Nat)] 49) (b4 : Blk W p4 t0.cs 111)
    (h1 : w.heap.size ≤ p1) (h2 : p1 < p2) (h3 : p2 < p3) (h4 : p3 < p4)
    (ho : OwnB (p4 + 1) W (.slice a7 (pack L').length c7) (pack L')) :
    OfRel w p1 p2 p3 p4 xs (k + 1) (((((((((W.setCell ⟨p3, 0, none⟩ (.slice a7 (pack L').length c7)).setCell ⟨p3, 1, none⟩ (.int .i64 (L'.length : Nat))).setCell ⟨p4, 0, none⟩ (.int .i64 t'.n)).setCell ⟨p4, 1, none⟩ (.int .i64 t'.last)).setCell ⟨p4, 2, none⟩ (.int .i64 t'.delta)).setCell ⟨p4, 3, none⟩ (.bool t'.val.has)).setCell ⟨p4, 4, none⟩ (.int .u64 (t'.val.prev : Nat))).setCell ⟨p4, 5, none⟩ (.int .u8 (t'.val.lead : Nat))).setCell ⟨p4, 6, none⟩ (.int .u8 (t'.val.width : Nat))) := by
  subst hL ht; have h3' : w.heap.size ≤ p3 := by omega
  have h4' : w.heap.size ≤ p4 := by omega
  have m3 : p3 < p4 + 1 := by omega
  have m4 : p4 < p4 + 1 := by omega
  have n34 : ¬ p3 = p4 := by omega
  have n43 : ¬ p4 = p3 := by omega
  refine ⟨?_, hg, rof_old b1 (by omega) (by omega), rof_old b2 (by omega) (by omega), ⟨a7, c7, ?_, ?_⟩, ?_⟩
  · exact exs (exs (exs (exs (exs (exs (exs (exs (exs hov h3' _) h3' _) h4' _) h4' _) h4' _) h4' _) h4' _) h4' _) h4' _
  · refine Blk.set_ne (Blk.set_ne (Blk.set_ne (Blk.set_ne (Blk.set_ne (Blk.set_ne (Blk.set_ne ?_ n34 _) n34 _) n34 _) n34 _) n34 _) n34 _) n34 _; exact (b3.set 0 _).set 1 _
  · exact Own.setCell (Own.setCell (Own.setCell (Own.setCell (Own.setCell (Own.setCell (Own.setCell (Own.setCell (Own.setCell ho m3 _) m3 _) m4 _) m4 _) m4 _) m4 _) m4 _) m4 _) m4 _
  · exact (((((((Blk.set_ne (Blk.set_ne b4 n43 _) n43 _).set 0 _).set 1 _).set 2 _).set 3 _).set 4 _).set 5 _).set 6 _
end
structure OfR (w wr W : World) (p1 p2 p3 p4 p7 p8 : Nat) (c3s c4s c7s c8s : List Value) (v7 : Value) (L' : List Bool) : Prop where
 o : ∃ e, W = over w e
 a1 : Blk W p1 [.slice none 0 0, .int .i64 0] 49
 a2 : Blk W p2 En.zero.cs 111
 a3 : Blk W p3 c3s 49
 a4 : Blk W p4 c4s 111
 a7 : Blk W p7 c7s 49
 a8 : Blk W p8 c8s 111
 ab : OwnB wr.heap.size W v7 (pack L')
 sz : wr.heap.size ≤ W.heap.size
 lo : wr.heap.size ≤ p7 ∧ wr.heap.size ≤ p8
theorem rcof_any (xs : List Sm) (hx : ∀ s ∈ xs, s.wf) (hl : xs.length ≤ 4000) (a : Option Addr) (cap : Nat) (w : World) (hT : TabW w) (hs : SlM w a cap xs) :
    Calls Tryz.prog 88 #[.slice a xs.length cap] w (RcoPost w (ofC xs)) := by
  go_enter Tryz.func88, Tryz.ntmps88; go_wp2_with fail
  go_loopw [7] (fun i wr => ∃ (k : Nat), k ≤ xs.length ∧ i = .int .i64 (k : Nat) ∧ OfRel w w.heap.size (w.heap.size + 1) (w.heap.size + 1 + 1) (w.heap.size + 1 + 1 + 1) xs k wr) (fun i _ => xs.length - (intOf i).toNat)
  case atStart =>
   refine ⟨0, Nat.zero_le _, rfl, ovA, trivial, ?_, ?_, ⟨none, 0, ?_, ?_⟩, ?_⟩
   · exact Blk.alloc (Blk.alloc (Blk.alloc (Blk.new' (by simp)) _) _) _
   · show Blk _ _ [.int .i64 0, .int .i64 0, .int .i64 0, .bool false, .int .u64 0, .int .u8 0, .int .u8 0] _
     exact Blk.alloc (Blk.alloc (Blk.new' (by simp)) _) _
   · show Blk _ _ [.slice none (pack []).length 0, .int .i64 0] _
     rw [pack_nil]; exact Blk.alloc (Blk.new' (by simp)) _
   · show OwnB _ _ (.slice none (pack []).length 0) (pack [])
     rw [pack_nil]; exact Own.nil _
   · show Blk _ _ [.int .i64 0, .int .i64 0, .int .i64 0, .bool false, .int .u64 0, .int .u8 0, .int .u8 0] _
     exact (by exact blA)
  case round =>
   obtain ⟨k, hk, rfl, ⟨e0, he0⟩, hg, hb1, hb2, ⟨a3, c3, hb3, ho3⟩, hb4⟩ := hrel; have hp1 : w.heap.size < w.heap.size + 1 := by omega
   have hp2 : w.heap.size + 1 < w.heap.size + 1 + 1 := by omega
   have hp3 : w.heap.size + 1 + 1 < w.heap.size + 1 + 1 + 1 := by omega
   generalize w.heap.size + 1 + 1 + 1 = p4 at *; generalize w.heap.size + 1 + 1 = p3 at *; generalize w.heap.size + 1 = p2 at *; obtain ⟨p1, hp1'⟩ : ∃ p1, w.heap.size = p1 := ⟨_, rfl⟩; rw [hp1'] at hp1 hb1 ⊢; have hwp : w.heap.size ≤ p1 := Nat.le_of_eq hp1'; have H0 : Hid (∃ e, wr = over w e) := hid ⟨e0, he0⟩; have HB1 := hid hb1; have HB2 := hid hb2; have HB3 := hid hb3; have HB4 := hid hb4; have HO3 := hid ho3; clear he0 hb1 hb2 hb3 hb4 ho3; have hxk : ∀ s ∈ xs.take k, s.wf := fun s hs => hx s (List.mem_of_mem_take hs); have hkn := knowZ hxk (by rw [List.length_take]; omega); have hbl := bitsZ_len hxk (by rw [List.length_take]; omega); rw [List.length_take] at hbl; have l1 := HB1.out.lt; have l2 := HB2.out.lt; have l3 := HB3.out.lt; have l4 := HB4.out.lt; by_cases hlt : k < xs.length
   · obtain ⟨b6, o6, rfl, hb6, k0, k1⟩ := SlM.at_ hs hlt; have hv := hx xs[k] (List.getElem_mem hlt); have hwr := knowC_snoc En.zero (xs.take k) xs[k]; have hwr2 := bitsC_snoc En.zero (xs.take k) xs[k]; have hwr3 := goodC_snoc En.zero (xs.take k) xs[k]; have hbad := ofC_bad hlt; rw [← takeC_get hlt] at hwr hwr2 hwr3; have hsb : SlB wr a3 c3 (pack (bitsC En.zero (xs.take k))) := (Own.slice' bcs_len HO3.out).2; generalize knowC En.zero (xs.take k) = t at *; generalize bitsC En.zero (xs.take k) = L at *; have kr0 : wr.cell? ⟨b6, o6 + k * 2, none⟩ = some (.int .i64 xs[k].t) := by obtain ⟨e0, rfl⟩ := H0.out; rw [cell_over _ _ _ _ hb6]; exact k0
     have kr1 : wr.cell? ⟨b6, o6 + k * 2 + 1, none⟩ = some (.int .u64 (xs[k].v : Nat)) := by obtain ⟨e0, rfl⟩ := H0.out; rw [cell_over _ _ _ _ hb6]; exact k1
     clear k0 k1; have hbr : b6 < wr.heap.size := by omega
     generalize xs[k] = x at *; by_cases hc : comes t x.t
     · have HW1 := hid hwr; have HW2 := hid hwr2; have HW3 := hid (hwr3.2 ⟨hg, hc⟩); have HP := hid (fun W h1 h2 => rcput_own L (by omega) a3 c3 t hkn.2.1 hkn.1 x.t hv.1 hc x.v hv.2 W h1 h2); generalize (laid t x.t x.v).2 = t' at *; obtain ⟨L', hL'⟩ : ∃ L', L ++ (laid t x.t x.v).1 = L' := ⟨_, rfl⟩; have HL' := hid hL'; rw [hL'] at HP; have r30 := HB3.out.cell 0 rfl; have r31 := HB3.out.cell 1 rfl; have g30 := HB3.out.free 0; have g31 := HB3.out.free 1; have r40 := HB4.out.cell 0 rfl; have r41 := HB4.out.cell 1 rfl; have r42 := HB4.out.cell 2 rfl; have r43 := HB4.out.cell 3 rfl; have r44 := HB4.out.cell 4 rfl; have r45 := HB4.out.cell 5 rfl; have r46 := HB4.out.cell 6 rfl; have m31 : ∀ x, p3 < wr.heap.size + x := fun x => by omega
       have m32 : ∀ x y, p3 < wr.heap.size + x + y := fun x y => by omega
       have m33 : ∀ x y z, p3 < wr.heap.size + x + y + z := fun x y z => by omega
       have m41 : ∀ x, p4 < wr.heap.size + x := fun x => by omega
       have m42 : ∀ x y, p4 < wr.heap.size + x + y := fun x y => by omega
       have m43 : ∀ x y z, p4 < wr.heap.size + x + y + z := fun x y z => by omega
       have n34 : ¬ p3 = p4 := by omega
       have n43 : ¬ p4 = p3 := by omega
       have hb4' : Hid (p4 + 1 ≤ wr.heap.size) := hid l4; clear hwr hwr2 hwr3 hbad hL' hxk hs hkn; go_wp2_with fail
       apply rg4 (F := fun q1 q2 a9 c9 W => OfR w wr W p1 p2 p3 p4 q1 q2 [.slice a3 (pack L).length c3, .int .i64 (L.length : Nat)] t.cs [.slice a9 (pack L').length c9, .int .i64 (L'.length : Nat)] t'.cs (.slice a9 (pack L').length c9) L')
       case h1 =>
        refine M2.wp_region_tree (fun w' => ∃ e : World, w' = over _ e) [6, 11, 12, 13, 14] (.q 0 (.q 1 (.q 2 (.q 3 (.q 4 (.q 5 (.e 6 (.q 7 (.q 8 (.q 9 (.q 10 (.e 11 (.e 12 (.e 13 (.e 14 (.q 15 .done) .no) .no) .no) (.e 12 (.e 11 (.e 13 (.e 14 (.q 15 .done) .no) .no) .no) .no)))))) (.e 11 (.e 6 (.q 7 (.q 8 (.q 9 (.q 10 (.e 12 (.e 13 (.e 14 (.q 15 .done) .no) .no) .no))))) (.e 12 (.e 6 (.q 7 (.q 8 (.q 9 (.q 10 (.e 13 (.e 14 (.q 15 .done) .no) .no))))) .no) .no)) (.e 12 (.e 6 (.q 7 (.q 8 (.q 9 (.q 10 (.e 11 (.e 13 (.e 14 (.q 15 .done) .no) .no) .no))))) (.e 11 (.e 6 (.q 7 (.q 8 (.q 9 (.q 10 (.e 13 (.e 14 (.q 15 .done) .no) .no))))) .no) .no)) .no))))))))) (by kernel_rfl) (by kernel_rfl) (ex_drew (ovs _)) ?_; repeat (refine M2.tree_q rfl rfl ?_; go_big_quiet_step (fail); with_reducible refine wpQuiet_nil ?_)
        refine M2.tree_e (k := 6) rfl ?_ ?_
        · go_wp2_with ((go_at_call 108; (with_reducible refine (HP.out _ (TabW.ov hT (ovB H0.out)) (by exact slA hsb)).mono ?_); rintro _ _ ⟨a7, c7, rfl, ⟨e7, rfl⟩, ho7⟩; have HO7 := hid ho7; clear ho7))
          refine M2.TreeQ.mk ovA ?_; repeat (refine M2.tree_q rfl rfl ?_; go_big_quiet_step (fail); with_reducible refine wpQuiet_nil ?_)
          refine M2.tree_e (k := 11) rfl ?_ ?_
          · go_wp2_with (fail)
            refine M2.TreeQ.mk ovA ?_; refine M2.tree_e1 (k := 12) rfl ?_; go_wp2_with (fail)
            refine M2.TreeQ.mk ovA ?_; refine M2.tree_e1 (k := 13) rfl ?_; go_wp2_with (fail)
            refine M2.TreeQ.mk ovA ?_; refine M2.tree_e1 (k := 14) rfl ?_; go_wp2_with (fail)
            refine M2.TreeQ.mk ovA ?_; repeat (refine M2.tree_q rfl rfl ?_; go_big_quiet_step (fail); with_reducible refine wpQuiet_nil ?_)
            refine M2.trd ?_; obtain ⟨q1, hq1⟩ : ∃ q, q = (wr.heap.size + e7.heap.size) := ⟨_, rfl⟩; obtain ⟨q2, hq2⟩ : ∃ q, q = (wr.heap.size + e7.heap.size + 1) := ⟨_, rfl⟩; first | rw [← hq2, ← hq1] | rw [← hq1, ← hq2]
            refine RgPost.mk q1 q2 a7 c7 rfl ?_; exact ⟨(ovB H0.out), (by exact bxA HB1.out), (by exact bxA HB2.out), (by exact bxA HB3.out), (by exact bxA HB4.out), by rw [hq1]; exact (by exact blA), by rw [hq2]; exact (by exact blA), by (repeat (first | with_reducible refine Own.alloc ?_ _ | with_reducible refine Own.drew ?_)); exact Own.mono (Own.ovw HO7.out (by exact szA) (by exact szA)) (by exact szA), by simp; try omega, by omega, by omega⟩
          refine M2.tree_e (k := 12) rfl ?_ ?_
          · go_wp2_with (fail)
            refine M2.TreeQ.mk ovA ?_; refine M2.tree_e1 (k := 11) rfl ?_; go_wp2_with (fail)
            refine M2.TreeQ.mk ovA ?_; refine M2.tree_e1 (k := 13) rfl ?_; go_wp2_with (fail)
            refine M2.TreeQ.mk ovA ?_; refine M2.tree_e1 (k := 14) rfl ?_; go_wp2_with (fail)
            refine M2.TreeQ.mk ovA ?_; repeat (refine M2.tree_q rfl rfl ?_; go_big_quiet_step (fail); with_reducible refine wpQuiet_nil ?_)
            refine M2.trd ?_; obtain ⟨q1, hq1⟩ : ∃ q, q = (wr.heap.size + e7.heap.size + 1) := ⟨_, rfl⟩; obtain ⟨q2, hq2⟩ : ∃ q, q = (wr.heap.size + e7.heap.size) := ⟨_, rfl⟩; first | rw [← hq2, ← hq1] | rw [← hq1, ← hq2]
            refine RgPost.mk q1 q2 a7 c7 rfl ?_; exact ⟨(ovB H0.out), (by exact bxA HB1.out), (by exact bxA HB2.out), (by exact bxA HB3.out), (by exact bxA HB4.out), by rw [hq1]; exact (by exact blA), by rw [hq2]; exact (by exact blA), by (repeat (first | with_reducible refine Own.alloc ?_ _ | with_reducible refine Own.drew ?_)); exact Own.mono (Own.ovw HO7.out (by exact szA) (by exact szA)) (by exact szA), by simp; try omega, by omega, by omega⟩
          exact M2.tree_no
        refine M2.tree_e (k := 11) rfl ?_ ?_
        · go_wp2_with (fail)
          refine M2.TreeQ.mk ovA ?_; refine M2.tree_e (k := 6) rfl ?_ ?_
          · go_wp2_with ((go_at_call 108; (with_reducible refine (HP.out _ (TabW.ov hT (ovB H0.out)) (by exact slA hsb)).mono ?_); rintro _ _ ⟨a7, c7, rfl, ⟨e7, rfl⟩, ho7⟩; have HO7 := hid ho7; clear ho7))
            refine M2.TreeQ.mk ovA ?_; repeat (refine M2.tree_q rfl rfl ?_; go_big_quiet_step (fail); with_reducible refine wpQuiet_nil ?_)
            refine M2.tree_e1 (k := 12) rfl ?_; go_wp2_with (fail)
            refine M2.TreeQ.mk ovA ?_; refine M2.tree_e1 (k := 13) rfl ?_; go_wp2_with (fail)
            refine M2.TreeQ.mk ovA ?_; refine M2.tree_e1 (k := 14) rfl ?_; go_wp2_with (fail)
            refine M2.TreeQ.mk ovA ?_; repeat (refine M2.tree_q rfl rfl ?_; go_big_quiet_step (fail); with_reducible refine wpQuiet_nil ?_)
            refine M2.trd ?_; obtain ⟨q1, hq1⟩ : ∃ q, q = (wr.heap.size) := ⟨_, rfl⟩; obtain ⟨q2, hq2⟩ : ∃ q, q = (wr.heap.size + 1 + e7.heap.size) := ⟨_, rfl⟩; first | rw [← hq2, ← hq1] | rw [← hq1, ← hq2]
            refine RgPost.mk q1 q2 a7 c7 rfl ?_; exact ⟨(ovB H0.out), (by exact bxA HB1.out), (by exact bxA HB2.out), (by exact bxA HB3.out), (by exact bxA HB4.out), by rw [hq1]; exact (by exact blA), by rw [hq2]; exact (by exact blA), by (repeat (first | with_reducible refine Own.alloc ?_ _ | with_reducible refine Own.drew ?_)); exact Own.mono (Own.ovw HO7.out (by exact szA) (by exact szA)) (by exact szA), by simp; try omega, by omega, by omega⟩
          refine M2.tree_e (k := 12) rfl ?_ ?_
          · go_wp2_with (fail)
            refine M2.TreeQ.mk ovA ?_; refine M2.tree_e1 (k := 6) rfl ?_; go_wp2_with ((go_at_call 108; (with_reducible refine (HP.out _ (TabW.ov hT (ovB H0.out)) (by exact slA hsb)).mono ?_); rintro _ _ ⟨a7, c7, rfl, ⟨e7, rfl⟩, ho7⟩; have HO7 := hid ho7; clear ho7))
            refine M2.TreeQ.mk ovA ?_; repeat (refine M2.tree_q rfl rfl ?_; go_big_quiet_step (fail); with_reducible refine wpQuiet_nil ?_)
            refine M2.tree_e1 (k := 13) rfl ?_; go_wp2_with (fail)
            refine M2.TreeQ.mk ovA ?_; refine M2.tree_e1 (k := 14) rfl ?_; go_wp2_with (fail)
            refine M2.TreeQ.mk ovA ?_; repeat (refine M2.tree_q rfl rfl ?_; go_big_quiet_step (fail); with_reducible refine wpQuiet_nil ?_)
            refine M2.trd ?_; obtain ⟨q1, hq1⟩ : ∃ q, q = (wr.heap.size) := ⟨_, rfl⟩; obtain ⟨q2, hq2⟩ : ∃ q, q = (wr.heap.size + 1) := ⟨_, rfl⟩; first | rw [← hq2, ← hq1] | rw [← hq1, ← hq2]
            refine RgPost.mk q1 q2 a7 c7 rfl ?_; exact ⟨(ovB H0.out), (by exact bxA HB1.out), (by exact bxA HB2.out), (by exact bxA HB3.out), (by exact bxA HB4.out), by rw [hq1]; exact (by exact blA), by rw [hq2]; exact (by exact blA), by (repeat (first | with_reducible refine Own.alloc ?_ _ | with_reducible refine Own.drew ?_)); exact Own.mono (Own.ovw HO7.out (by exact szA) (by exact szA)) (by exact szA), by simp; try omega, by omega, by omega⟩
          exact M2.tree_no
        refine M2.tree_e (k := 12) rfl ?_ ?_
        · go_wp2_with (fail)
          refine M2.TreeQ.mk ovA ?_; refine M2.tree_e (k := 6) rfl ?_ ?_
          · go_wp2_with ((go_at_call 108; (with_reducible refine (HP.out _ (TabW.ov hT (ovB H0.out)) (by exact slA hsb)).mono ?_); rintro _ _ ⟨a7, c7, rfl, ⟨e7, rfl⟩, ho7⟩; have HO7 := hid ho7; clear ho7))
            refine M2.TreeQ.mk ovA ?_; repeat (refine M2.tree_q rfl rfl ?_; go_big_quiet_step (fail); with_reducible refine wpQuiet_nil ?_)
            refine M2.tree_e1 (k := 11) rfl ?_; go_wp2_with (fail)
            refine M2.TreeQ.mk ovA ?_; refine M2.tree_e1 (k := 13) rfl ?_; go_wp2_with (fail)
            refine M2.TreeQ.mk ovA ?_; refine M2.tree_e1 (k := 14) rfl ?_; go_wp2_with (fail)
            refine M2.TreeQ.mk ovA ?_; repeat (refine M2.tree_q rfl rfl ?_; go_big_quiet_step (fail); with_reducible refine wpQuiet_nil ?_)
            refine M2.trd ?_; obtain ⟨q1, hq1⟩ : ∃ q, q = (wr.heap.size + 1 + e7.heap.size) := ⟨_, rfl⟩; obtain ⟨q2, hq2⟩ : ∃ q, q = (wr.heap.size) := ⟨_, rfl⟩; first | rw [← hq2, ← hq1] | rw [← hq1, ← hq2]
            refine RgPost.mk q1 q2 a7 c7 rfl ?_; exact ⟨(ovB H0.out), (by exact bxA HB1.out), (by exact bxA HB2.out), (by exact bxA HB3.out), (by exact bxA HB4.out), by rw [hq1]; exact (by exact blA), by rw [hq2]; exact (by exact blA), by (repeat (first | with_reducible refine Own.alloc ?_ _ | with_reducible refine Own.drew ?_)); exact Own.mono (Own.ovw HO7.out (by exact szA) (by exact szA)) (by exact szA), by simp; try omega, by omega, by omega⟩
          refine M2.tree_e (k := 11) rfl ?_ ?_
          · go_wp2_with (fail)
            refine M2.TreeQ.mk ovA ?_; refine M2.tree_e1 (k := 6) rfl ?_; go_wp2_with ((go_at_call 108; (with_reducible refine (HP.out _ (TabW.ov hT (ovB H0.out)) (by exact slA hsb)).mono ?_); rintro _ _ ⟨a7, c7, rfl, ⟨e7, rfl⟩, ho7⟩; have HO7 := hid ho7; clear ho7))
            refine M2.TreeQ.mk ovA ?_; repeat (refine M2.tree_q rfl rfl ?_; go_big_quiet_step (fail); with_reducible refine wpQuiet_nil ?_)
            refine M2.tree_e1 (k := 13) rfl ?_; go_wp2_with (fail)
            refine M2.TreeQ.mk ovA ?_; refine M2.tree_e1 (k := 14) rfl ?_; go_wp2_with (fail)
            refine M2.TreeQ.mk ovA ?_; repeat (refine M2.tree_q rfl rfl ?_; go_big_quiet_step (fail); with_reducible refine wpQuiet_nil ?_)
            refine M2.trd ?_; obtain ⟨q1, hq1⟩ : ∃ q, q = (wr.heap.size + 1) := ⟨_, rfl⟩; obtain ⟨q2, hq2⟩ : ∃ q, q = (wr.heap.size) := ⟨_, rfl⟩; first | rw [← hq2, ← hq1] | rw [← hq1, ← hq2]
            refine RgPost.mk q1 q2 a7 c7 rfl ?_; exact ⟨(ovB H0.out), (by exact bxA HB1.out), (by exact bxA HB2.out), (by exact bxA HB3.out), (by exact bxA HB4.out), by rw [hq1]; exact (by exact blA), by rw [hq2]; exact (by exact blA), by (repeat (first | with_reducible refine Own.alloc ?_ _ | with_reducible refine Own.drew ?_)); exact Own.mono (Own.ovw HO7.out (by exact szA) (by exact szA)) (by exact szA), by simp; try omega, by omega, by omega⟩
          exact M2.tree_no
        exact M2.tree_no
       case h2 =>
        intro p7 p8 a7 c7 W7 hv; obtain ⟨hr1, hr2, hr3, hr4, hr5, hr6, hr7, hr8, hwW, hr9, hr10⟩ := hv; have O7 := hid hr1; have A1 := hid hr2; have A2 := hid hr3; have A3 := hid hr4; have A4 := hid hr5; have A7 := hid hr6; have A8 := hid hr7; have AB := hid hr8; clear hr1 hr2 hr3 hr4 hr5 hr6 hr7 hr8; have n37 : ¬ (p3 = p7) := by omega
        have n38 : ¬ (p3 = p8) := by omega
        have n47 : ¬ (p4 = p7) := by omega
        have n48 : ¬ (p4 = p8) := by omega
        have n73 : ¬ (p7 = p3) := by omega
        have n74 : ¬ (p7 = p4) := by omega
        have n83 : ¬ (p8 = p3) := by omega
        have n84 : ¬ (p8 = p4) := by omega
        clear m31 m32 m33 m41 m42 m43 r30 r31 g30 g31 l3 r40 r41 r42 r43 r44 r45 r46 l4 hsb; have r30 := A3.out.cell 0 rfl; have r31 := A3.out.cell 1 rfl; have g30 := A3.out.free 0; have g31 := A3.out.free 1; have l3 := A3.out.lt; have r40 := A4.out.cell 0 rfl; have r41 := A4.out.cell 1 rfl; have r42 := A4.out.cell 2 rfl; have r43 := A4.out.cell 3 rfl; have r44 := A4.out.cell 4 rfl; have r45 := A4.out.cell 5 rfl; have r46 := A4.out.cell 6 rfl; have g40 := A4.out.free 0; have g41 := A4.out.free 1; have g42 := A4.out.free 2; have g43 := A4.out.free 3; have g44 := A4.out.free 4; have g45 := A4.out.free 5; have g46 := A4.out.free 6; have l4 := A4.out.lt; have r70 := A7.out.cell 0 rfl; have r71 := A7.out.cell 1 rfl; have l7 := A7.out.lt; have r80 := A8.out.cell 0 rfl; have r81 := A8.out.cell 1 rfl; have r82 := A8.out.cell 2 rfl; have r83 := A8.out.cell 3 rfl; have r84 := A8.out.cell 4 rfl; have r85 := A8.out.cell 5 rfl; have r86 := A8.out.cell 6 rfl; have l8 := A8.out.lt; go_wp2_with fail
        go_roundw
        case rel =>
         have hL1 := HL'.out; have hb4 : p4 + 1 ≤ wr.heap.size := hb4'.out; refine ⟨k + 1, by omega, by go_num, ?_⟩; with_reducible refine rof_next O7.out HW3.out (HW2.out.trans hL1) HW1.out A1.out A2.out A3.out A4.out hwp hp1 hp2 hp3 (Own.mono AB.out hb4)
        case measure => simp [intOf]; omega
     · have HP := hid (fun W h1 => rcput_time L (by omega) a3 c3 t hkn.2.1 hkn.1 x.t hc x.v W h1); have hbad' := hbad hc; rw [hbad']; clear hbad hbad' hwr hwr2 hwr3 hxk hs; have HP' : Hid (∀ W, SlB W a3 c3 (pack L) → Calls Tryz.prog 108 #[bv a3 (pack L).length c3 L.length, t.v, smV x.t x.v] W (Ret W (.tuple #[bv none 0 0 0, .agg #[.int .i64 0, .int .i64 0, .int .i64 0, .bool false, .int .u64 0, .int .u8 0, .int .u8 0], .int .i64 60]))) := HP; clear HP hkn; have r30 := HB3.out.cell 0 rfl; have r31 := HB3.out.cell 1 rfl; have g30 := HB3.out.free 0; have g31 := HB3.out.free 1; have r40 := HB4.out.cell 0 rfl; have r41 := HB4.out.cell 1 rfl; have r42 := HB4.out.cell 2 rfl; have r43 := HB4.out.cell 3 rfl; have r44 := HB4.out.cell 4 rfl; have r45 := HB4.out.cell 5 rfl; have r46 := HB4.out.cell 6 rfl; have m31 : ∀ x, p3 < wr.heap.size + x := fun x => by omega
       have m32 : ∀ x y, p3 < wr.heap.size + x + y := fun x y => by omega
       have m33 : ∀ x y z, p3 < wr.heap.size + x + y + z := fun x y z => by omega
       have m41 : ∀ x, p4 < wr.heap.size + x := fun x => by omega
       have m42 : ∀ x y, p4 < wr.heap.size + x + y := fun x y => by omega
       have m43 : ∀ x y z, p4 < wr.heap.size + x + y + z := fun x y z => by omega
       have n34 : ¬ p3 = p4 := by omega
       have n43 : ¬ p4 = p3 := by omega
       have hb4' : Hid (p4 + 1 ≤ wr.heap.size) := hid l4; go_wp2_with fail
       refine M2.wp_region_tree (fun w' => ∃ e : World, w' = over _ e) [6, 11, 12, 13, 14] (.q 0 (.q 1 (.q 2 (.q 3 (.q 4 (.q 5 (.e 6 (.q 7 (.q 8 (.q 9 (.q 10 (.e 11 (.e 12 (.e 13 (.e 14 (.q 15 .done) .no) .no) .no) (.e 12 (.e 11 (.e 13 (.e 14 (.q 15 .done) .no) .no) .no) .no)))))) (.e 11 (.e 6 (.q 7 (.q 8 (.q 9 (.q 10 (.e 12 (.e 13 (.e 14 (.q 15 .done) .no) .no) .no))))) (.e 12 (.e 6 (.q 7 (.q 8 (.q 9 (.q 10 (.e 13 (.e 14 (.q 15 .done) .no) .no))))) .no) .no)) (.e 12 (.e 6 (.q 7 (.q 8 (.q 9 (.q 10 (.e 11 (.e 13 (.e 14 (.q 15 .done) .no) .no) .no))))) (.e 11 (.e 6 (.q 7 (.q 8 (.q 9 (.q 10 (.e 13 (.e 14 (.q 15 .done) .no) .no))))) .no) .no)) .no))))))))) (by kernel_rfl) (by kernel_rfl) (ex_drew (ovs _)) ?_; repeat (refine M2.tree_q rfl rfl ?_; go_big_quiet_step (fail); with_reducible refine wpQuiet_nil ?_)
       refine M2.tree_e (k := 6) rfl ?_ ?_
       · go_wp2_with ((go_at_call 108; (with_reducible refine (HP'.out _ (by exact slA hsb)).mono ?_); rintro _ _ ⟨⟨e7, rfl⟩, rfl⟩))
         refine M2.TreeQ.mk ovA ?_; repeat (refine M2.tree_q rfl rfl ?_; go_big_quiet_step (fail); with_reducible refine wpQuiet_nil ?_)
         refine M2.tree_e (k := 11) rfl ?_ ?_
         · go_wp2_with (fail)
           refine M2.TreeQ.mk ovA ?_; refine M2.tree_e1 (k := 12) rfl ?_; go_wp2_with (fail)
           refine M2.TreeQ.mk ovA ?_; refine M2.tree_e1 (k := 13) rfl ?_; go_wp2_with (fail)
           refine M2.TreeQ.mk ovA ?_; refine M2.tree_e1 (k := 14) rfl ?_; go_wp2_with (fail)
           refine M2.TreeQ.mk ovA ?_; repeat (refine M2.tree_q rfl rfl ?_; go_big_quiet_step (fail); with_reducible refine wpQuiet_nil ?_)
           refine M2.trd ?_; refine gen_w ?_; intro W7 hW7; have O7 : Hid (∃ e, W7 = over w e) := hid (by rw [hW7]; exact (ovB H0.out)); have A1 : Hid (Blk W7 p1 [.slice none 0 0, .int .i64 0] 49) := hid (by rw [hW7]; exact (by exact bxA HB1.out)); have A2 : Hid (Blk W7 p2 En.zero.cs 111) := hid (by rw [hW7]; exact (by exact bxA HB2.out)); clear hW7; have r10 := A1.out.cell 0 rfl; have r11 := A1.out.cell 1 rfl; have g10 := A1.out.free 0; have g11 := A1.out.free 1; have l1 := A1.out.lt; have r20 := A2.out.cell 0 rfl; have r21 := A2.out.cell 1 rfl; have r22 := A2.out.cell 2 rfl; have r23 := A2.out.cell 3 rfl; have r24 := A2.out.cell 4 rfl; have r25 := A2.out.cell 5 rfl; have r26 := A2.out.cell 6 rfl; have g20 := A2.out.free 0; have g21 := A2.out.free 1; have g22 := A2.out.free 2; have g23 := A2.out.free 3; have g24 := A2.out.free 4; have g25 := A2.out.free 5; have g26 := A2.out.free 6; have l2 := A2.out.lt; have n12 : ¬ p1 = p2 := by omega
           have n21 : ¬ p2 = p1 := by omega
           have m2 : w.heap.size ≤ p2 := by omega
           go_wp2_with fail
           (try simp only [Exit.inBlock, Exit.then])
           refine bodyPost_ret (v := ?rv90) ?rh90 rfl ?rp90
           case rh90 => (simp only [results, show Tryz.f88.results = #[.cell 2 49, .cell 3 111, .tmp 4] from rfl]; go_simp; rfl)
           refine ⟨none, 0, rfl, (ovB O7.out), ?_⟩; show OwnB _ _ (.slice none (pack []).length 0) (pack [])
           rw [pack_nil]; exact Own.nil _
         refine M2.tree_e (k := 12) rfl ?_ ?_
         · go_wp2_with (fail)
           refine M2.TreeQ.mk ovA ?_; refine M2.tree_e1 (k := 11) rfl ?_; go_wp2_with (fail)
           refine M2.TreeQ.mk ovA ?_; refine M2.tree_e1 (k := 13) rfl ?_; go_wp2_with (fail)
           refine M2.TreeQ.mk ovA ?_; refine M2.tree_e1 (k := 14) rfl ?_; go_wp2_with (fail)
           refine M2.TreeQ.mk ovA ?_; repeat (refine M2.tree_q rfl rfl ?_; go_big_quiet_step (fail); with_reducible refine wpQuiet_nil ?_)
           refine M2.trd ?_; refine gen_w ?_; intro W7 hW7; have O7 : Hid (∃ e, W7 = over w e) := hid (by rw [hW7]; exact (ovB H0.out)); have A1 : Hid (Blk W7 p1 [.slice none 0 0, .int .i64 0] 49) := hid (by rw [hW7]; exact (by exact bxA HB1.out)); have A2 : Hid (Blk W7 p2 En.zero.cs 111) := hid (by rw [hW7]; exact (by exact bxA HB2.out)); clear hW7; have r10 := A1.out.cell 0 rfl; have r11 := A1.out.cell 1 rfl; have g10 := A1.out.free 0; have g11 := A1.out.free 1; have l1 := A1.out.lt; have r20 := A2.out.cell 0 rfl; have r21 := A2.out.cell 1 rfl; have r22 := A2.out.cell 2 rfl; have r23 := A2.out.cell 3 rfl; have r24 := A2.out.cell 4 rfl; have r25 := A2.out.cell 5 rfl; have r26 := A2.out.cell 6 rfl; have g20 := A2.out.free 0; have g21 := A2.out.free 1; have g22 := A2.out.free 2; have g23 := A2.out.free 3; have g24 := A2.out.free 4; have g25 := A2.out.free 5; have g26 := A2.out.free 6; have l2 := A2.out.lt; have n12 : ¬ p1 = p2 := by omega
           have n21 : ¬ p2 = p1 := by omega
           have m2 : w.heap.size ≤ p2 := by omega
           go_wp2_with fail
           (try simp only [Exit.inBlock, Exit.then])
           refine bodyPost_ret (v := ?rv91) ?rh91 rfl ?rp91
           case rh91 => (simp only [results, show Tryz.f88.results = #[.cell 2 49, .cell 3 111, .tmp 4] from rfl]; go_simp; rfl)
           refine ⟨none, 0, rfl, (ovB O7.out), ?_⟩; show OwnB _ _ (.slice none (pack []).length 0) (pack [])
           rw [pack_nil]; exact Own.nil _
         exact M2.tree_no
       refine M2.tree_e (k := 11) rfl ?_ ?_
       · go_wp2_with (fail)
         refine M2.TreeQ.mk ovA ?_; refine M2.tree_e (k := 6) rfl ?_ ?_
         · go_wp2_with ((go_at_call 108; (with_reducible refine (HP'.out _ (by exact slA hsb)).mono ?_); rintro _ _ ⟨⟨e7, rfl⟩, rfl⟩))
           refine M2.TreeQ.mk ovA ?_; repeat (refine M2.tree_q rfl rfl ?_; go_big_quiet_step (fail); with_reducible refine wpQuiet_nil ?_)
           refine M2.tree_e1 (k := 12) rfl ?_; go_wp2_with (fail)
           refine M2.TreeQ.mk ovA ?_; refine M2.tree_e1 (k := 13) rfl ?_; go_wp2_with (fail)
           refine M2.TreeQ.mk ovA ?_; refine M2.tree_e1 (k := 14) rfl ?_; go_wp2_with (fail)
           refine M2.TreeQ.mk ovA ?_; repeat (refine M2.tree_q rfl rfl ?_; go_big_quiet_step (fail); with_reducible refine wpQuiet_nil ?_)
           refine M2.trd ?_; refine gen_w ?_; intro W7 hW7; have O7 : Hid (∃ e, W7 = over w e) := hid (by rw [hW7]; exact (ovB H0.out)); have A1 : Hid (Blk W7 p1 [.slice none 0 0, .int .i64 0] 49) := hid (by rw [hW7]; exact (by exact bxA HB1.out)); have A2 : Hid (Blk W7 p2 En.zero.cs 111) := hid (by rw [hW7]; exact (by exact bxA HB2.out)); clear hW7; have r10 := A1.out.cell 0 rfl; have r11 := A1.out.cell 1 rfl; have g10 := A1.out.free 0; have g11 := A1.out.free 1; have l1 := A1.out.lt; have r20 := A2.out.cell 0 rfl; have r21 := A2.out.cell 1 rfl; have r22 := A2.out.cell 2 rfl; have r23 := A2.out.cell 3 rfl; have r24 := A2.out.cell 4 rfl; have r25 := A2.out.cell 5 rfl; have r26 := A2.out.cell 6 rfl; have g20 := A2.out.free 0; have g21 := A2.out.free 1; have g22 := A2.out.free 2; have g23 := A2.out.free 3; have g24 := A2.out.free 4; have g25 := A2.out.free 5; have g26 := A2.out.free 6; have l2 := A2.out.lt; have n12 : ¬ p1 = p2 := by omega
           have n21 : ¬ p2 = p1 := by omega
           have m2 : w.heap.size ≤ p2 := by omega
           go_wp2_with fail
           (try simp only [Exit.inBlock, Exit.then])
           refine bodyPost_ret (v := ?rv92) ?rh92 rfl ?rp92
           case rh92 => (simp only [results, show Tryz.f88.results = #[.cell 2 49, .cell 3 111, .tmp 4] from rfl]; go_simp; rfl)
           refine ⟨none, 0, rfl, (ovB O7.out), ?_⟩; show OwnB _ _ (.slice none (pack []).length 0) (pack [])
           rw [pack_nil]; exact Own.nil _
         refine M2.tree_e (k := 12) rfl ?_ ?_
         · go_wp2_with (fail)
           refine M2.TreeQ.mk ovA ?_; refine M2.tree_e1 (k := 6) rfl ?_; go_wp2_with ((go_at_call 108; (with_reducible refine (HP'.out _ (by exact slA hsb)).mono ?_); rintro _ _ ⟨⟨e7, rfl⟩, rfl⟩))
           refine M2.TreeQ.mk ovA ?_; repeat (refine M2.tree_q rfl rfl ?_; go_big_quiet_step (fail); with_reducible refine wpQuiet_nil ?_)
           refine M2.tree_e1 (k := 13) rfl ?_; go_wp2_with (fail)
           refine M2.TreeQ.mk ovA ?_; refine M2.tree_e1 (k := 14) rfl ?_; go_wp2_with (fail)
           refine M2.TreeQ.mk ovA ?_; repeat (refine M2.tree_q rfl rfl ?_; go_big_quiet_step (fail); with_reducible refine wpQuiet_nil ?_)
           refine M2.trd ?_; refine gen_w ?_; intro W7 hW7; have O7 : Hid (∃ e, W7 = over w e) := hid (by rw [hW7]; exact (ovB H0.out)); have A1 : Hid (Blk W7 p1 [.slice none 0 0, .int .i64 0] 49) := hid (by rw [hW7]; exact (by exact bxA HB1.out)); have A2 : Hid (Blk W7 p2 En.zero.cs 111) := hid (by rw [hW7]; exact (by exact bxA HB2.out)); clear hW7; have r10 := A1.out.cell 0 rfl; have r11 := A1.out.cell 1 rfl; have g10 := A1.out.free 0; have g11 := A1.out.free 1; have l1 := A1.out.lt; have r20 := A2.out.cell 0 rfl; have r21 := A2.out.cell 1 rfl; have r22 := A2.out.cell 2 rfl; have r23 := A2.out.cell 3 rfl; have r24 := A2.out.cell 4 rfl; have r25 := A2.out.cell 5 rfl; have r26 := A2.out.cell 6 rfl; have g20 := A2.out.free 0; have g21 := A2.out.free 1; have g22 := A2.out.free 2; have g23 := A2.out.free 3; have g24 := A2.out.free 4; have g25 := A2.out.free 5; have g26 := A2.out.free 6; have l2 := A2.out.lt; have n12 : ¬ p1 = p2 := by omega
           have n21 : ¬ p2 = p1 := by omega
           have m2 : w.heap.size ≤ p2 := by omega
           go_wp2_with fail
           (try simp only [Exit.inBlock, Exit.then])
           refine bodyPost_ret (v := ?rv93) ?rh93 rfl ?rp93
           case rh93 => (simp only [results, show Tryz.f88.results = #[.cell 2 49, .cell 3 111, .tmp 4] from rfl]; go_simp; rfl)
           refine ⟨none, 0, rfl, (ovB O7.out), ?_⟩; show OwnB _ _ (.slice none (pack []).length 0) (pack [])
           rw [pack_nil]; exact Own.nil _
         exact M2.tree_no
       refine M2.tree_e (k := 12) rfl ?_ ?_
       · go_wp2_with (fail)
         refine M2.TreeQ.mk ovA ?_; refine M2.tree_e (k := 6) rfl ?_ ?_
         · go_wp2_with ((go_at_call 108; (with_reducible refine (HP'.out _ (by exact slA hsb)).mono ?_); rintro _ _ ⟨⟨e7, rfl⟩, rfl⟩))
           refine M2.TreeQ.mk ovA ?_; repeat (refine M2.tree_q rfl rfl ?_; go_big_quiet_step (fail); with_reducible refine wpQuiet_nil ?_)
           refine M2.tree_e1 (k := 11) rfl ?_; go_wp2_with (fail)
           refine M2.TreeQ.mk ovA ?_; refine M2.tree_e1 (k := 13) rfl ?_; go_wp2_with (fail)
           refine M2.TreeQ.mk ovA ?_; refine M2.tree_e1 (k := 14) rfl ?_; go_wp2_with (fail)
           refine M2.TreeQ.mk ovA ?_; repeat (refine M2.tree_q rfl rfl ?_; go_big_quiet_step (fail); with_reducible refine wpQuiet_nil ?_)
           refine M2.trd ?_; refine gen_w ?_; intro W7 hW7; have O7 : Hid (∃ e, W7 = over w e) := hid (by rw [hW7]; exact (ovB H0.out)); have A1 : Hid (Blk W7 p1 [.slice none 0 0, .int .i64 0] 49) := hid (by rw [hW7]; exact (by exact bxA HB1.out)); have A2 : Hid (Blk W7 p2 En.zero.cs 111) := hid (by rw [hW7]; exact (by exact bxA HB2.out)); clear hW7; have r10 := A1.out.cell 0 rfl; have r11 := A1.out.cell 1 rfl; have g10 := A1.out.free 0; have g11 := A1.out.free 1; have l1 := A1.out.lt; have r20 := A2.out.cell 0 rfl; have r21 := A2.out.cell 1 rfl; have r22 := A2.out.cell 2 rfl; have r23 := A2.out.cell 3 rfl; have r24 := A2.out.cell 4 rfl; have r25 := A2.out.cell 5 rfl; have r26 := A2.out.cell 6 rfl; have g20 := A2.out.free 0; have g21 := A2.out.free 1; have g22 := A2.out.free 2; have g23 := A2.out.free 3; have g24 := A2.out.free 4; have g25 := A2.out.free 5; have g26 := A2.out.free 6; have l2 := A2.out.lt; have n12 : ¬ p1 = p2 := by omega
           have n21 : ¬ p2 = p1 := by omega
           have m2 : w.heap.size ≤ p2 := by omega
           go_wp2_with fail
           (try simp only [Exit.inBlock, Exit.then])
           refine bodyPost_ret (v := ?rv94) ?rh94 rfl ?rp94
           case rh94 => (simp only [results, show Tryz.f88.results = #[.cell 2 49, .cell 3 111, .tmp 4] from rfl]; go_simp; rfl)
           refine ⟨none, 0, rfl, (ovB O7.out), ?_⟩; show OwnB _ _ (.slice none (pack []).length 0) (pack [])
           rw [pack_nil]; exact Own.nil _
         refine M2.tree_e (k := 11) rfl ?_ ?_
         · go_wp2_with (fail)
           refine M2.TreeQ.mk ovA ?_; refine M2.tree_e1 (k := 6) rfl ?_; go_wp2_with ((go_at_call 108; (with_reducible refine (HP'.out _ (by exact slA hsb)).mono ?_); rintro _ _ ⟨⟨e7, rfl⟩, rfl⟩))
           refine M2.TreeQ.mk ovA ?_; repeat (refine M2.tree_q rfl rfl ?_; go_big_quiet_step (fail); with_reducible refine wpQuiet_nil ?_)
           refine M2.tree_e1 (k := 13) rfl ?_; go_wp2_with (fail)
           refine M2.TreeQ.mk ovA ?_; refine M2.tree_e1 (k := 14) rfl ?_; go_wp2_with (fail)
           refine M2.TreeQ.mk ovA ?_; repeat (refine M2.tree_q rfl rfl ?_; go_big_quiet_step (fail); with_reducible refine wpQuiet_nil ?_)
           refine M2.trd ?_; refine gen_w ?_; intro W7 hW7; have O7 : Hid (∃ e, W7 = over w e) := hid (by rw [hW7]; exact (ovB H0.out)); have A1 : Hid (Blk W7 p1 [.slice none 0 0, .int .i64 0] 49) := hid (by rw [hW7]; exact (by exact bxA HB1.out)); have A2 : Hid (Blk W7 p2 En.zero.cs 111) := hid (by rw [hW7]; exact (by exact bxA HB2.out)); clear hW7; have r10 := A1.out.cell 0 rfl; have r11 := A1.out.cell 1 rfl; have g10 := A1.out.free 0; have g11 := A1.out.free 1; have l1 := A1.out.lt; have r20 := A2.out.cell 0 rfl; have r21 := A2.out.cell 1 rfl; have r22 := A2.out.cell 2 rfl; have r23 := A2.out.cell 3 rfl; have r24 := A2.out.cell 4 rfl; have r25 := A2.out.cell 5 rfl; have r26 := A2.out.cell 6 rfl; have g20 := A2.out.free 0; have g21 := A2.out.free 1; have g22 := A2.out.free 2; have g23 := A2.out.free 3; have g24 := A2.out.free 4; have g25 := A2.out.free 5; have g26 := A2.out.free 6; have l2 := A2.out.lt; have n12 : ¬ p1 = p2 := by omega
           have n21 : ¬ p2 = p1 := by omega
           have m2 : w.heap.size ≤ p2 := by omega
           go_wp2_with fail
           (try simp only [Exit.inBlock, Exit.then])
           refine bodyPost_ret (v := ?rv95) ?rh95 rfl ?rp95
           case rh95 => (simp only [results, show Tryz.f88.results = #[.cell 2 49, .cell 3 111, .tmp 4] from rfl]; go_simp; rfl)
           refine ⟨none, 0, rfl, (ovB O7.out), ?_⟩; show OwnB _ _ (.slice none (pack []).length 0) (pack [])
           rw [pack_nil]; exact Own.nil _
         exact M2.tree_no
       exact M2.tree_no
   · obtain rfl : k = xs.length := by omega
     rw [List.take_length] at *; have hof := ofC_good hg; simp only [hof] at *; clear hkn hbl hg hx hs hT hxk; generalize knowC En.zero xs = t at *; generalize bitsC En.zero xs = L at *; have r10 := HB1.out.cell 0 rfl; have r11 := HB1.out.cell 1 rfl; have g10 := HB1.out.free 0; have g11 := HB1.out.free 1; have r20 := HB2.out.cell 0 rfl; have r21 := HB2.out.cell 1 rfl; have r22 := HB2.out.cell 2 rfl; have r23 := HB2.out.cell 3 rfl; have r24 := HB2.out.cell 4 rfl; have r25 := HB2.out.cell 5 rfl; have r26 := HB2.out.cell 6 rfl; have g20 := HB2.out.free 0; have g21 := HB2.out.free 1; have g22 := HB2.out.free 2; have g23 := HB2.out.free 3; have g24 := HB2.out.free 4; have g25 := HB2.out.free 5; have g26 := HB2.out.free 6; have r30 := HB3.out.cell 0 rfl; have r31 := HB3.out.cell 1 rfl; have g30 := HB3.out.free 0; have g31 := HB3.out.free 1; have r40 := HB4.out.cell 0 rfl; have r41 := HB4.out.cell 1 rfl; have r42 := HB4.out.cell 2 rfl; have r43 := HB4.out.cell 3 rfl; have r44 := HB4.out.cell 4 rfl; have r45 := HB4.out.cell 5 rfl; have r46 := HB4.out.cell 6 rfl; have m31 : ∀ x, p3 < wr.heap.size + x := fun x => by omega
     have m32 : ∀ x y, p3 < wr.heap.size + x + y := fun x y => by omega
     have m33 : ∀ x y z, p3 < wr.heap.size + x + y + z := fun x y z => by omega
     have m41 : ∀ x, p4 < wr.heap.size + x := fun x => by omega
     have m42 : ∀ x y, p4 < wr.heap.size + x + y := fun x y => by omega
     have m43 : ∀ x y z, p4 < wr.heap.size + x + y + z := fun x y z => by omega
     have n34 : ¬ p3 = p4 := by omega
     have n43 : ¬ p4 = p3 := by omega
     have hb4' : Hid (p4 + 1 ≤ wr.heap.size) := hid l4; obtain ⟨F, hF⟩ : ∃ F, F = [p1, p2] := ⟨_, rfl⟩; have i1 : p1 ∈ F := by rw [hF]; simp
     have i2 : p2 ∈ F := by rw [hF]; simp
     have i3 : p3 ∉ F := by rw [hF]; simp; omega
     have i4 : p4 ∉ F := by rw [hF]; simp; omega
     have HF : Hid (∀ i ∈ F, w.heap.size ≤ i) := hid (by rw [hF]; simp; omega); have HF2 : Hid (∀ i ∈ F, i < p4 + 1) := hid (by rw [hF]; simp; omega); have n12 : ¬ p1 = p2 := by omega
     have n21 : ¬ p2 = p1 := by omega
     clear hF; go_wp2_with fail
     refine M2.wrz (fun w' => ∃ m : Mut, w' = chg F _ m) [2, 3] 5 (by kernel_rfl) (by kernel_rfl) (by decide) (chg_of (Chg.refl _ _)) ?_; simp only [M2.td]; with_reducible refine M2.mlq 2 (by kernel_rfl) ?_
     simp only [M2.td]; repeat (go_big_quiet_step (fail))
     with_reducible refine wpQuiet_nil ?_
     with_reducible refine M2.mle (by decide) ?_
     go_wp2_with (fail)
     refine M2.MixQ.mk (chg_of (by exact chA)) ?_; with_reducible refine M2.mle (by decide) ?_
     go_wp2_with (fail)
     refine M2.MixQ.mk (chg_of (by exact chA)) ?_; with_reducible refine M2.mlq 1 (by kernel_rfl) ?_
     simp only [M2.td]; repeat (go_big_quiet_step (fail))
     with_reducible refine wpQuiet_nil ?_
     with_reducible refine M2.mln ?_
     with_reducible refine M2.mln ?_
     go_wp2_with fail
     (try simp only [Exit.inBlock, Exit.then])
     refine bodyPost_ret (v := ?rv96) ?rh96 rfl ?rp96
     case rh96 => (simp only [results, show Tryz.f88.results = #[.cell 2 49, .cell 3 111, .tmp 4] from rfl]; go_simp; rfl)
     have m1 : w.heap.size ≤ p1 := Nat.le_of_eq hp1'; have m2 : w.heap.size ≤ p2 := by omega
     have k1 : p1 < p4 + 1 := by omega
     have k2 : p2 < p4 + 1 := by omega
     refine ⟨a3, c3, rfl, (ovB H0.out), ?_⟩; refine Own.mono (base := p4 + 1) (Own.drew ?_) (by omega); exact Own.setCell (Own.setCell (Own.setCell (Own.setCell (Own.setCell (Own.setCell (Own.setCell (Own.setCell (Own.setCell HO3.out k1 _) k1 _) k2 _) k2 _) k2 _) k2 _) k2 _) k2 _) k2 _
end Go.Proofs.YtnffcckhdedhpaaGreatDoor
