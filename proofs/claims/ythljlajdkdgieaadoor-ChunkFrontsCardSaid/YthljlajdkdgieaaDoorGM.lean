/- Texts merged: ChkO, ChkA, ChkR. -/
import Derived.Test.YthljlajdkdgieaaDoorGF
namespace Go.Proofs.YthljlajdkdgieaaDoor
set_option linter.unusedVariables false
set_option linter.unusedSimpArgs false
open Go.RowKit
attribute [local go_sem] over_drew chg_drew

def En.cs (e : En) : List Value := [.int .i64 e.n, .int .i64 e.last, .int .i64 e.delta, .bool e.val.has, .int .u64 (e.val.prev : Nat), .int .u8 (e.val.lead : Nat), .int .u8 (e.val.width : Nat)]

/-- The state of the loop. -/
structure OfRel (w : World) (p1 p2 p3 p4 : Nat) (xs : List Sm) (k : Nat) (wr : World) : Prop where
  ov : ∃ e, wr = over w e
  good : goodC En.zero (xs.take k)
  b1 : Blk wr p1 [.slice none 0 0, .int .i64 0] 29
  b2 : Blk wr p2 En.zero.cs 42
  b3 : ∃ a c, Blk wr p3 [.slice a (pack (bitsC En.zero (xs.take k))).length c, .int .i64 ((bitsC En.zero (xs.take k)).length : Nat)] 29 ∧ OwnB (p4 + 1) wr (.slice a (pack (bitsC En.zero (xs.take k))).length c) (pack (bitsC En.zero (xs.take k)))
  b4 : Blk wr p4 (knowC En.zero (xs.take k)).cs 42

section
variable {W e8 : World} {p3 p4 : Nat} {u0 u1 v0 v1 v2 v3 v4 v5 v6 : Value} {lit : Obj}
theorem of_p3 {x0 x1 : Value} {t : TypeId} (h : Blk W p3 [x0, x1] t) (n34 : ¬ p3 = p4) : Blk (over ((((((((((W.setCell ⟨p3, 0, none⟩ u0).setCell ⟨p3, 1, none⟩ u1).setCell ⟨p4, 0, none⟩ v0).setCell ⟨p4, 1, none⟩ v1).setCell ⟨p4, 2, none⟩ v2).setCell ⟨p4, 3, none⟩ v3).setCell ⟨p4, 4, none⟩ v4).setCell ⟨p4, 5, none⟩ v5).setCell ⟨p4, 6, none⟩ v6).alloc lit) e8) p3 [u0, u1] t := by
  refine Blk.on (Blk.alloc (Blk.set_ne (Blk.set_ne (Blk.set_ne (Blk.set_ne (Blk.set_ne (Blk.set_ne (Blk.set_ne ?_ n34 _) n34 _) n34 _) n34 _) n34 _) n34 _) n34 _) _) _
  exact (h.set 0 u0).set 1 u1
theorem of_old {q : Nat} {cs : List Value} {t : TypeId} (h : Blk W q cs t) (n3 : ¬ q = p3) (n4 : ¬ q = p4) : Blk (over ((((((((((W.setCell ⟨p3, 0, none⟩ u0).setCell ⟨p3, 1, none⟩ u1).setCell ⟨p4, 0, none⟩ v0).setCell ⟨p4, 1, none⟩ v1).setCell ⟨p4, 2, none⟩ v2).setCell ⟨p4, 3, none⟩ v3).setCell ⟨p4, 4, none⟩ v4).setCell ⟨p4, 5, none⟩ v5).setCell ⟨p4, 6, none⟩ v6).alloc lit) e8) q cs t := by
  refine Blk.on (Blk.alloc ?_ _) _
  exact Blk.set_ne (Blk.set_ne (Blk.set_ne (Blk.set_ne (Blk.set_ne (Blk.set_ne (Blk.set_ne (Blk.set_ne (Blk.set_ne h n3 u0) n3 u1) n4 v0) n4 v1) n4 v2) n4 v3) n4 v4) n4 v5) n4 v6
theorem of_p4 {x0 x1 x2 x3 x4 x5 x6 : Value} {t : TypeId} (h : Blk W p4 [x0, x1, x2, x3, x4, x5, x6] t) (n43 : ¬ p4 = p3) : Blk (over ((((((((((W.setCell ⟨p3, 0, none⟩ u0).setCell ⟨p3, 1, none⟩ u1).setCell ⟨p4, 0, none⟩ v0).setCell ⟨p4, 1, none⟩ v1).setCell ⟨p4, 2, none⟩ v2).setCell ⟨p4, 3, none⟩ v3).setCell ⟨p4, 4, none⟩ v4).setCell ⟨p4, 5, none⟩ v5).setCell ⟨p4, 6, none⟩ v6).alloc lit) e8) p4 [v0, v1, v2, v3, v4, v5, v6] t := by
  refine Blk.on (Blk.alloc ?_ _) _
  exact (((((((Blk.set_ne (Blk.set_ne h n43 u0) n43 u1).set 0 v0).set 1 v1).set 2 v2).set 3 v3).set 4 v4).set 5 v5).set 6 v6
theorem of_next {w : World} {p1 p2 : Nat} {xs : List Sm} {k : Nat} {a3 a7 : Option Addr} {c3 c7 : Nat} {L' : List Bool} {t' : En} {L0 : List Bool} {t0 : En} (hov : ∃ e, W = over w e) (hg : goodC En.zero (xs.take (k + 1))) (hL : bitsC En.zero (xs.take (k + 1)) = L') (ht : knowC En.zero (xs.take (k + 1)) = t')
    (b1 : Blk W p1 [.slice none 0 0, .int .i64 0] 29) (b2 : Blk W p2 En.zero.cs 42) (b3 : Blk W p3 [.slice a3 (pack L0).length c3, .int .i64 (L0.length : Nat)] 29) (b4 : Blk W p4 t0.cs 42)
    (h1 : w.heap.size ≤ p1) (h2 : p1 < p2) (h3 : p2 < p3) (h4 : p3 < p4)
    (ho : OwnB (W.alloc lit).heap.size (over (W.alloc lit) e8) (.slice a7 (pack L').length c7) (pack L')) :
    OfRel w p1 p2 p3 p4 xs (k + 1) (over ((((((((((W.setCell ⟨p3, 0, none⟩ (.slice a7 (pack L').length c7)).setCell ⟨p3, 1, none⟩ (.int .i64 (L'.length : Nat))).setCell ⟨p4, 0, none⟩ (.int .i64 t'.n)).setCell ⟨p4, 1, none⟩ (.int .i64 t'.last)).setCell ⟨p4, 2, none⟩ (.int .i64 t'.delta)).setCell ⟨p4, 3, none⟩ (.bool t'.val.has)).setCell ⟨p4, 4, none⟩ (.int .u64 (t'.val.prev : Nat))).setCell ⟨p4, 5, none⟩ (.int .u8 (t'.val.lead : Nat))).setCell ⟨p4, 6, none⟩ (.int .u8 (t'.val.width : Nat))).alloc lit) e8) := by
  have l4 := b4.lt
  subst hL ht
  refine ⟨?_, hg, of_old b1 (by omega) (by omega), of_old b2 (by omega) (by omega), ⟨a7, c7, of_p3 b3 (by omega), Own.mono (Own.over_swap ho (by simp) (Nat.le_refl _)) (by simp; omega)⟩, of_p4 b4 (by omega)⟩
  have h3' : w.heap.size ≤ p3 := by omega
  have h4' : w.heap.size ≤ p4 := by omega
  exact ex_into (ex_alloc (ex_setCell (ex_setCell (ex_setCell (ex_setCell (ex_setCell (ex_setCell (ex_setCell (ex_setCell (ex_setCell hov h3' _) h3' _) h4' _) h4' _) h4' _) h4' _) h4' _) h4' _) h4' _) _) _
end
set_option maxRecDepth 100000 in
set_option maxHeartbeats 4000000 in
theorem cof_any (xs : List Sm) (hx : ∀ s ∈ xs, s.wf) (hl : xs.length ≤ 4000) (a : Option Addr) (cap : Nat) (w : World) (hT : TabW w) (hs : SlM w a cap xs) :
    Calls Tryd.prog 26 #[.slice a xs.length cap] w (CoPost w (ofC xs)) := by
  go_enter Tryd.func26, Tryd.ntmps26
  go_wp2_with fail
  go_loopw [12] (fun i wr => ∃ (k : Nat), k ≤ xs.length ∧ i = .int .i64 (k : Nat) ∧ OfRel w w.heap.size (w.heap.size + 1) (w.heap.size + 1 + 1) (w.heap.size + 1 + 1 + 1) xs k wr) (fun i _ => xs.length - (intOf i).toNat)
  case atStart =>
    refine ⟨0, Nat.zero_le _, rfl, (by (try unfold Ov); repeat (first | with_reducible exact ex_over | with_reducible exact over_self _ | with_reducible refine ex_undrew ?_ | with_reducible refine ex_into ?_ _ | with_reducible refine ex_alloc ?_ _ | with_reducible refine ex_drew ?_ | ((with_reducible refine ex_setCell ?_ ?_ _); rotate_left; (first | omega | (focus (simp; done)) | (focus (simp; omega)))) | ((with_reducible refine ex_chg ?_ _ ?_); rotate_left; (first | assumption | (exact Hid.out (by assumption)))) | exact ex_over)), trivial, ?_, ?_, ⟨none, 0, ?_, ?_⟩, ?_⟩
    · exact Blk.alloc (Blk.alloc (Blk.alloc (Blk.new' (by simp)) _) _) _
    · show Blk _ _ [.int .i64 0, .int .i64 0, .int .i64 0, .bool false, .int .u64 0, .int .u8 0, .int .u8 0] _
      exact Blk.alloc (Blk.alloc (Blk.new' (by simp)) _) _
    · show Blk _ _ [.slice none (pack []).length 0, .int .i64 0] _
      rw [pack_nil]; exact Blk.alloc (Blk.new' (by simp)) _
    · show OwnB _ _ (.slice none (pack []).length 0) (pack [])
      rw [pack_nil]; exact Own.nil _
    · show Blk _ _ [.int .i64 0, .int .i64 0, .int .i64 0, .bool false, .int .u64 0, .int .u8 0, .int .u8 0] _
      exact (by repeat (first | exact Blk.new' (by simp; done) | exact Blk.new' rfl | with_reducible assumption | with_reducible refine Blk.alloc ?_ _ | with_reducible refine Blk.drew ?_ | with_reducible refine Blk.on ?_ _ | ((with_reducible refine Blk.chg ?_ (chg_chg _ _ _) ?_); rotate_left; (first | assumption | (focus (simp; done)) | (focus (simp; omega))))))
  case round =>
    obtain ⟨k, hk, rfl, ⟨e0, he0⟩, hg, hb1, hb2, ⟨a3, c3, hb3, ho3⟩, hb4⟩ := hrel
    have hp1 : w.heap.size < w.heap.size + 1 := by omega
    have hp2 : w.heap.size + 1 < w.heap.size + 1 + 1 := by omega
    have hp3 : w.heap.size + 1 + 1 < w.heap.size + 1 + 1 + 1 := by omega
    have hwp : w.heap.size ≤ w.heap.size := Nat.le_refl _
    generalize w.heap.size + 1 + 1 + 1 = p4 at *
    generalize w.heap.size + 1 + 1 = p3 at *
    generalize w.heap.size + 1 = p2 at *
    obtain ⟨p1, hp1'⟩ : ∃ p1, w.heap.size = p1 := ⟨_, rfl⟩
    rw [hp1'] at hp1 hwp hb1 ⊢
    rw [← hp1'] at hwp
    have H0 : Hid (∃ e, wr = over w e) := hid ⟨e0, he0⟩
    have HB1 := hid hb1
    have HB2 := hid hb2
    have HB3 := hid hb3
    have HB4 := hid hb4
    have HO3 := hid ho3
    clear he0 hb1 hb2 hb3 hb4 ho3
    have hxk : ∀ s ∈ xs.take k, s.wf := fun s hs => hx s (List.mem_of_mem_take hs)
    have hkn := knowZ hxk (by rw [List.length_take]; omega)
    have hbl := bitsZ_len hxk (by rw [List.length_take]; omega)
    rw [List.length_take] at hbl
    have l1 := HB1.out.lt
    have l2 := HB2.out.lt
    have l3 := HB3.out.lt
    have l4 := HB4.out.lt
    by_cases hlt : k < xs.length
    · obtain ⟨b6, o6, rfl, hb6, k0, k1⟩ := SlM.at_ hs hlt
      have hv := hx xs[k] (List.getElem_mem hlt)
      have hwr := knowC_snoc En.zero (xs.take k) xs[k]
      have hwr2 := bitsC_snoc En.zero (xs.take k) xs[k]
      have hwr3 := goodC_snoc En.zero (xs.take k) xs[k]
      have hbad := ofC_bad hlt
      rw [← takeC_get hlt] at hwr hwr2 hwr3
      have hsb : SlB wr a3 c3 (pack (bitsC En.zero (xs.take k))) := (Own.slice' bcs_len HO3.out).2
      generalize knowC En.zero (xs.take k) = t at *
      generalize bitsC En.zero (xs.take k) = L at *
      have kr0 : wr.cell? ⟨b6, o6 + k * 2, none⟩ = some (.int .i64 xs[k].t) := by obtain ⟨e0, rfl⟩ := H0.out; rw [cell_over _ _ _ _ hb6]; exact k0
      have kr1 : wr.cell? ⟨b6, o6 + k * 2 + 1, none⟩ = some (.int .u64 (xs[k].v : Nat)) := by obtain ⟨e0, rfl⟩ := H0.out; rw [cell_over _ _ _ _ hb6]; exact k1
      clear k0 k1
      have hbr : b6 < wr.heap.size := by omega
      generalize xs[k] = x at *
      by_cases hc : comes t x.t
      · have HW1 := hid hwr
        have HW2 := hid hwr2
        have HW3 := hid (hwr3.2 ⟨hg, hc⟩)
        have hw' := laid_sound (v := x.v) hkn.1 hkn.2.1 hv.1 hv.2 (by rw [hkn.2.2, List.length_take]; omega)
        have HP := hid (fun W h1 h2 => cput_yes L (by omega) a3 c3 t hkn.2.1 hkn.1 x.t hv.1 hc x.v hv.2 W h1 h2)
        generalize (laid t x.t x.v).2 = t' at *
        obtain ⟨L', hL'⟩ : ∃ L', L ++ (laid t x.t x.v).1 = L' := ⟨_, rfl⟩
        have HL' := hid hL'
        rw [hL'] at HP
        have r30 := HB3.out.cell 0 rfl
        have r31 := HB3.out.cell 1 rfl
        have g30 := HB3.out.free 0
        have g31 := HB3.out.free 1
        have r40 := HB4.out.cell 0 rfl
        have r41 := HB4.out.cell 1 rfl
        have r42 := HB4.out.cell 2 rfl
        have r43 := HB4.out.cell 3 rfl
        have r44 := HB4.out.cell 4 rfl
        have r45 := HB4.out.cell 5 rfl
        have r46 := HB4.out.cell 6 rfl
        have g40 := HB4.out.free 0
        have g41 := HB4.out.free 1
        have g42 := HB4.out.free 2
        have g43 := HB4.out.free 3
        have g44 := HB4.out.free 4
        have g45 := HB4.out.free 5
        have g46 := HB4.out.free 6
        have m31 : ∀ x, p3 < wr.heap.size + x := fun x => by omega
        have m32 : ∀ x y, p3 < wr.heap.size + x + y := fun x y => by omega
        have m33 : ∀ x y z, p3 < wr.heap.size + x + y + z := fun x y z => by omega
        have m41 : ∀ x, p4 < wr.heap.size + x := fun x => by omega
        have m42 : ∀ x y, p4 < wr.heap.size + x + y := fun x y => by omega
        have m43 : ∀ x y z, p4 < wr.heap.size + x + y + z := fun x y z => by omega
        have n34 : ¬ p3 = p4 := by omega
        have n43 : ¬ p4 = p3 := by omega
        clear hwr hwr2 hwr3 hbad hL' hw' hxk hs hkn
        go_wp2_with (go_at_call 28; (with_reducible refine (HP.out _ (TabW.ov hT (by (try unfold Ov); repeat (first | with_reducible exact H0.out | with_reducible exact H0.out | with_reducible refine ex_undrew ?_ | with_reducible refine ex_into ?_ _ | with_reducible refine ex_alloc ?_ _ | with_reducible refine ex_drew ?_ | ((with_reducible refine ex_setCell ?_ ?_ _); rotate_left; (first | omega | (focus (simp; done)) | (focus (simp; omega)))) | ((with_reducible refine ex_chg ?_ _ ?_); rotate_left; (first | assumption | (exact Hid.out (by assumption)))) | exact ex_over))) (by repeat (first | with_reducible exact hsb | with_reducible refine Sl.over ?_ _ | with_reducible refine Sl.alloc ?_ _ | with_reducible refine Sl.drew ?_ | exact hsb))).mono ?_); rintro _ _ ⟨a7, c7, rfl, ⟨e7, rfl⟩, ho7⟩; have HO7 := hid ho7; clear ho7)
        go_roundw
        case rel =>
          have hL1 := HL'.out
          refine ⟨k + 1, by omega, by go_num, ?_⟩
          with_reducible refine of_next H0.out HW3.out (HW2.out.trans hL1) HW1.out HB1.out HB2.out HB3.out HB4.out (Nat.le_of_eq hp1') hp1 hp2 hp3 HO7.out
        case measure => simp [intOf]; omega
      · have HP := hid (fun W h1 => cput_time L (by omega) a3 c3 t hkn.2.1 hkn.1 x.t hc x.v W h1)
        have hbad' := hbad hc
        rw [hbad']
        clear hbad hbad' hwr hwr2 hwr3
        clear hxk hs
        obtain ⟨hE1, hE2, hE3⟩ := hkn
        have HE3 := hid hE3
        clear hE3
        have HP' : Hid (∀ W, SlB W a3 c3 (pack L) → Calls Tryd.prog 28 #[bv a3 (pack L).length c3 L.length, t.v, smV x.t x.v] W (Ret W (.tuple #[bv none 0 0 0, .agg #[.int .i64 0, .int .i64 0, .int .i64 0, .bool false, .int .u64 0, .int .u8 0, .int .u8 0], .int .u16 60]))) := HP
        clear HP
        have r30 := HB3.out.cell 0 rfl
        have r31 := HB3.out.cell 1 rfl
        have g30 := HB3.out.free 0
        have g31 := HB3.out.free 1
        have r40 := HB4.out.cell 0 rfl
        have r41 := HB4.out.cell 1 rfl
        have r42 := HB4.out.cell 2 rfl
        have r43 := HB4.out.cell 3 rfl
        have r44 := HB4.out.cell 4 rfl
        have r45 := HB4.out.cell 5 rfl
        have r46 := HB4.out.cell 6 rfl
        have g40 := HB4.out.free 0
        have g41 := HB4.out.free 1
        have g42 := HB4.out.free 2
        have g43 := HB4.out.free 3
        have g44 := HB4.out.free 4
        have g45 := HB4.out.free 5
        have g46 := HB4.out.free 6
        have m31 : ∀ x, p3 < wr.heap.size + x := fun x => by omega
        have m32 : ∀ x y, p3 < wr.heap.size + x + y := fun x y => by omega
        have m33 : ∀ x y z, p3 < wr.heap.size + x + y + z := fun x y z => by omega
        have m41 : ∀ x, p4 < wr.heap.size + x := fun x => by omega
        have m42 : ∀ x y, p4 < wr.heap.size + x + y := fun x y => by omega
        have m43 : ∀ x y z, p4 < wr.heap.size + x + y + z := fun x y z => by omega
        have n34 : ¬ p3 = p4 := by omega
        have n43 : ¬ p4 = p3 := by omega
        have r10 := HB1.out.cell 0 rfl
        have r11 := HB1.out.cell 1 rfl
        have g10 := HB1.out.free 0
        have g11 := HB1.out.free 1
        have r20 := HB2.out.cell 0 rfl
        have r21 := HB2.out.cell 1 rfl
        have r22 := HB2.out.cell 2 rfl
        have r23 := HB2.out.cell 3 rfl
        have r24 := HB2.out.cell 4 rfl
        have r25 := HB2.out.cell 5 rfl
        have r26 := HB2.out.cell 6 rfl
        have g20 := HB2.out.free 0
        have g21 := HB2.out.free 1
        have g22 := HB2.out.free 2
        have g23 := HB2.out.free 3
        have g24 := HB2.out.free 4
        have g25 := HB2.out.free 5
        have g26 := HB2.out.free 6
        have m11 : ∀ x, p1 < wr.heap.size + x := fun x => by omega
        have m12 : ∀ x y, p1 < wr.heap.size + x + y := fun x y => by omega
        have m21 : ∀ x, p2 < wr.heap.size + x := fun x => by omega
        have m22 : ∀ x y, p2 < wr.heap.size + x + y := fun x y => by omega
        have n13 : ¬ p1 = p3 := by omega
        have n14 : ¬ p1 = p4 := by omega
        have n23 : ¬ p2 = p3 := by omega
        have n24 : ¬ p2 = p4 := by omega
        have n12 : ¬ p1 = p2 := by omega
        have n21 : ¬ p2 = p1 := by omega
        go_wp2_with (go_at_call 28; (with_reducible refine (HP'.out _ (by repeat (first | with_reducible exact hsb | with_reducible refine Sl.over ?_ _ | with_reducible refine Sl.alloc ?_ _ | with_reducible refine Sl.drew ?_ | exact hsb))).mono ?_); rintro _ _ ⟨⟨e1, rfl⟩, rfl⟩)
        (try simp only [Exit.inBlock, Exit.then])
        refine bodyPost_ret (v := ?rv27) ?rh27 rfl ?rp27
        case rh27 => (simp only [results, show Tryd.f26.results = #[.cell 2 29, .cell 3 42, .tmp 4] from rfl]; go_simp; rfl)
        have m1 : w.heap.size ≤ p1 := Nat.le_of_eq hp1'
        have m2 : w.heap.size ≤ p2 := by omega
        have m3 : w.heap.size ≤ p3 := by omega
        have m4 : w.heap.size ≤ p4 := by omega
        refine ⟨none, 0, rfl, (by (try unfold Ov); repeat (first | with_reducible exact H0.out | with_reducible exact H0.out | with_reducible refine ex_undrew ?_ | with_reducible refine ex_into ?_ _ | with_reducible refine ex_alloc ?_ _ | with_reducible refine ex_drew ?_ | ((with_reducible refine ex_setCell ?_ ?_ _); rotate_left; (first | omega | (focus (simp; done)) | (focus (simp; omega)))) | ((with_reducible refine ex_chg ?_ _ ?_); rotate_left; (first | assumption | (exact Hid.out (by assumption)))) | exact ex_over)), ?_⟩
        show OwnB _ _ (.slice none (pack []).length 0) (pack [])
        rw [pack_nil]; exact Own.nil _
    · obtain rfl : k = xs.length := by omega
      rw [List.take_length] at *
      have hof := ofC_good hg
      simp only [hof] at *
      clear hkn hbl hg hx hs hT hxk
      generalize knowC En.zero xs = t at *
      generalize bitsC En.zero xs = L at *
      have r10 := HB1.out.cell 0 rfl
      have r11 := HB1.out.cell 1 rfl
      have g10 := HB1.out.free 0
      have g11 := HB1.out.free 1
      have r20 := HB2.out.cell 0 rfl
      have r21 := HB2.out.cell 1 rfl
      have r22 := HB2.out.cell 2 rfl
      have r23 := HB2.out.cell 3 rfl
      have r24 := HB2.out.cell 4 rfl
      have r25 := HB2.out.cell 5 rfl
      have r26 := HB2.out.cell 6 rfl
      have g20 := HB2.out.free 0
      have g21 := HB2.out.free 1
      have g22 := HB2.out.free 2
      have g23 := HB2.out.free 3
      have g24 := HB2.out.free 4
      have g25 := HB2.out.free 5
      have g26 := HB2.out.free 6
      have r30 := HB3.out.cell 0 rfl
      have r31 := HB3.out.cell 1 rfl
      have r40 := HB4.out.cell 0 rfl
      have r41 := HB4.out.cell 1 rfl
      have r42 := HB4.out.cell 2 rfl
      have r43 := HB4.out.cell 3 rfl
      have r44 := HB4.out.cell 4 rfl
      have r45 := HB4.out.cell 5 rfl
      have r46 := HB4.out.cell 6 rfl
      obtain ⟨F, hF⟩ : ∃ F, F = [p1, p2] := ⟨_, rfl⟩
      have i1 : p1 ∈ F := by rw [hF]; simp
      have i2 : p2 ∈ F := by rw [hF]; simp
      have i3 : p3 ∉ F := by rw [hF]; simp; omega
      have i4 : p4 ∉ F := by rw [hF]; simp; omega
      have HF : Hid (∀ i ∈ F, w.heap.size ≤ i) := hid (by rw [hF]; simp; omega)
      have HF2 : Hid (∀ i ∈ F, i < p4 + 1) := hid (by rw [hF]; simp; omega)
      have n12 : ¬ p1 = p2 := by omega
      have n21 : ¬ p2 = p1 := by omega
      clear hF
      go_wp2_with fail
      refine M2.wp_region_mixZ (fun w' => ∃ m : Mut, w' = chg F _ m) [2, 3] 5 (by kernel_rfl) (by kernel_rfl) (by decide) (chg_of (Chg.refl _ _)) ?_
      simp only [List.take_succ_cons, List.take_zero, List.drop_succ_cons, List.drop_zero]
      with_reducible refine M2.mixL_quiet 2 (by kernel_rfl) ?_
      simp only [List.take_succ_cons, List.take_zero, List.drop_succ_cons, List.drop_zero]
      repeat (go_big_quiet_step (fail))
      with_reducible refine wpQuiet_nil ?_
      with_reducible refine M2.mixL_eff (by decide) ?_
      go_wp2_with (fail)
      refine M2.MixQ.mk (chg_of (by repeat (first | with_reducible exact Chg.refl _ _ | (focus (refine ChS.chg ?_; (repeat (first | with_reducible exact ChS.refl _ _ | with_reducible refine ChS.drewl ?_ | with_reducible refine ChS.drewr ?_ | with_reducible refine ChS.over ?_ _ | with_reducible refine chS_chgs ?_ _ | ((with_reducible refine chS_set ?_ _ ?_ _); rotate_left; (first | assumption | (focus (simp; done)) | (focus (simp; assumption)))) | with_reducible refine ChS.alloc ?_ _ | ((with_reducible refine ChS.lit ?_ ?_ _ _); rotate_left; (first | assumption | (focus (simp; done)) | (focus (simp; assumption)))) | with_reducible refine ChS.alloc ?_ _)); done)) | with_reducible refine Chg.alloc ?_ _ | with_reducible refine Chg.drew ?_ | with_reducible refine Chg.on ?_ _ | ((with_reducible refine Chg.setCell ?_ ?_ _); rotate_left; (first | (focus (left; assumption)) | (focus (left; simp; done)) | (focus (right; simp; done)) | (focus (right; simp; omega)) | (focus (left; simp; omega)))) | ((with_reducible refine Chg.in_ ?_ _ ?_); rotate_left; (first | assumption | (focus (intro i hi; left; simp at hi; subst hi; assumption)) | exact fun i hi => Or.inl hi | (focus (intro i hi; left; simp [hi]; done)) | (focus (intro i hi; left; simp at hi ⊢; simp [hi]; done)) | (focus (intro i hi; simp at hi ⊢; simp [hi]; done)) | (focus (intro i hi; simp at hi ⊢; omega))))))) ?_
      with_reducible refine M2.mixL_eff (by decide) ?_
      go_wp2_with (fail)
      refine M2.MixQ.mk (chg_of (by repeat (first | with_reducible exact Chg.refl _ _ | (focus (refine ChS.chg ?_; (repeat (first | with_reducible exact ChS.refl _ _ | with_reducible refine ChS.drewl ?_ | with_reducible refine ChS.drewr ?_ | with_reducible refine ChS.over ?_ _ | with_reducible refine chS_chgs ?_ _ | ((with_reducible refine chS_set ?_ _ ?_ _); rotate_left; (first | assumption | (focus (simp; done)) | (focus (simp; assumption)))) | with_reducible refine ChS.alloc ?_ _ | ((with_reducible refine ChS.lit ?_ ?_ _ _); rotate_left; (first | assumption | (focus (simp; done)) | (focus (simp; assumption)))) | with_reducible refine ChS.alloc ?_ _)); done)) | with_reducible refine Chg.alloc ?_ _ | with_reducible refine Chg.drew ?_ | with_reducible refine Chg.on ?_ _ | ((with_reducible refine Chg.setCell ?_ ?_ _); rotate_left; (first | (focus (left; assumption)) | (focus (left; simp; done)) | (focus (right; simp; done)) | (focus (right; simp; omega)) | (focus (left; simp; omega)))) | ((with_reducible refine Chg.in_ ?_ _ ?_); rotate_left; (first | assumption | (focus (intro i hi; left; simp at hi; subst hi; assumption)) | exact fun i hi => Or.inl hi | (focus (intro i hi; left; simp [hi]; done)) | (focus (intro i hi; left; simp at hi ⊢; simp [hi]; done)) | (focus (intro i hi; simp at hi ⊢; simp [hi]; done)) | (focus (intro i hi; simp at hi ⊢; omega))))))) ?_
      with_reducible refine M2.mixL_quiet 1 (by kernel_rfl) ?_
      simp only [List.take_succ_cons, List.take_zero, List.drop_succ_cons, List.drop_zero]
      repeat (go_big_quiet_step (fail))
      with_reducible refine wpQuiet_nil ?_
      with_reducible refine M2.mixL_nil ?_
      with_reducible refine M2.mixL_nil ?_
      go_wp2_with fail
      (try simp only [Exit.inBlock, Exit.then])
      refine bodyPost_ret (v := ?rv28) ?rh28 rfl ?rp28
      case rh28 => (simp only [results, show Tryd.f26.results = #[.cell 2 29, .cell 3 42, .tmp 4] from rfl]; go_simp; rfl)
      have m1 : w.heap.size ≤ p1 := Nat.le_of_eq hp1'
      have m2 : w.heap.size ≤ p2 := by omega
      have k1 : p1 < p4 + 1 := by omega
      have k2 : p2 < p4 + 1 := by omega
      refine ⟨a3, c3, rfl, (by (try unfold Ov); repeat (first | with_reducible exact H0.out | with_reducible exact H0.out | with_reducible refine ex_undrew ?_ | with_reducible refine ex_into ?_ _ | with_reducible refine ex_alloc ?_ _ | with_reducible refine ex_drew ?_ | ((with_reducible refine ex_setCell ?_ ?_ _); rotate_left; (first | omega | (focus (simp; done)) | (focus (simp; omega)))) | ((with_reducible refine ex_chg ?_ _ ?_); rotate_left; (first | assumption | (exact Hid.out (by assumption)))) | exact ex_over)), ?_⟩
      refine Own.mono (base := p4 + 1) (Own.drew ?_) (by omega)
      exact Own.setCell (Own.setCell (Own.setCell (Own.setCell (Own.setCell (Own.setCell (Own.setCell (Own.setCell (Own.setCell HO3.out k1 _) k1 _) k2 _) k2 _) k2 _) k2 _) k2 _) k2 _) k2 _
end Go.Proofs.YthljlajdkdgieaaDoor
namespace Go.Proofs.YthljlajdkdgieaaDoor
set_option linter.unusedVariables false
set_option linter.unusedSimpArgs false
open Go.RowKit
attribute [local go_sem] over_drew

def kC1 : List Bool := (ofC [⟨10, 1⟩, ⟨20, 1⟩]).1
def kC2 : List Bool := kC1 ++ (laid ⟨2, 20, 10, ⟨true, 1, 0, 0⟩⟩ 30 1).1
theorem kc1 : ofC [⟨10, 1⟩, ⟨20, 1⟩] = (kC1, ⟨2, 20, 10, ⟨true, 1, 0, 0⟩⟩, 0) := by decide +kernel
theorem kc2 : kC1.length = 138 := by decide +kernel
theorem kc3 : kC2.length = 140 := by decide +kernel
/-- Bits whose number is told, the rest laid out. -/
def CpN (w : World) (L : List Bool) (N : Int) (ev : Value) (en : Ending) (w' : World) : Prop :=
  ∃ a c, en = .returned (.tuple #[bv a (pack L).length c N, ev, .int .u16 0]) ∧ (∃ x, w' = over w x) ∧ SlB w' a c (pack L)
theorem CpOwn.n {w w' : World} {L : List Bool} {e : En} {en : Ending} (h : CpOwn w L e en w') {N : Int} (hN : (L.length : Int) = N) {ev : Value} (ht : e.v = ev) : CpN w L N ev en w' := by
  subst hN ht; obtain ⟨a, c, h1, h2, h3⟩ := h; exact ⟨a, c, h1, h2, (Own.slice' bcs_len h3).2⟩
theorem CoPost.n {w w' : World} {L : List Bool} {e : En} {en : Ending} (h : CoPost w (L, e, 0) en w') {N : Int} (hN : (L.length : Int) = N) {ev : Value} (ht : e.v = ev) : CpN w L N ev en w' := by
  subst hN ht; obtain ⟨a, c, h1, h2, h3⟩ := h; exact ⟨a, c, h1, h2, (Own.slice' bcs_len h3).2⟩

set_option maxRecDepth 100000 in
set_option maxHeartbeats 2000000 in
theorem known06_any (w : World) (hT : TabW w) : Calls Tryd.prog 24 #[] w (Ret w (.bool true)) := by
  have HK1 : Hid (∀ W a c, TabW W → SlM W a c [⟨10, 1⟩, ⟨20, 1⟩] → Calls Tryd.prog 26 #[.slice a 2 c] W (CpN W kC1 138 (.agg #[.int .i64 2, .int .i64 20, .int .i64 10, .bool true, .int .u64 1, .int .u8 0, .int .u8 0]))) :=
    hid (fun W a c hW hs => (cof_any [⟨10, 1⟩, ⟨20, 1⟩] (by simp [Sm.wf, i64ok]) (by simp) a c W hW hs).mono fun _ _ h => by rw [kc1] at h; exact h.n (N := 138) (congrArg (Nat.cast (R := Int)) kc2) rfl)
  have HK2 : Hid (∀ W a c, TabW W → SlB W a c (pack kC1) → Calls Tryd.prog 28 #[.agg #[.slice a (pack kC1).length c, .int .i64 138], .agg #[.int .i64 2, .int .i64 20, .int .i64 10, .bool true, .int .u64 1, .int .u8 0, .int .u8 0], .agg #[.int .i64 30, .int .u64 1]] W (CpN W kC2 140 ((laid ⟨2, 20, 10, ⟨true, 1, 0, 0⟩⟩ 30 1).2.v))) :=
    hid (fun W a c hW hs => by
      have h0 := (cput_yes kC1 (by rw [kc2]; decide) a c ⟨2, 20, 10, ⟨true, 1, 0, 0⟩⟩ (by simp [En.wf, Vl.wf, i64ok]) (by decide) 30 (by simp [i64ok]) (by decide) 1 (by decide) W hW hs).mono fun _ _ h => h.n (N := 140) (congrArg (Nat.cast (R := Int)) kc3) rfl
      rw [kc2] at h0; exact h0)
  have HK3 : Hid (∀ W a c, SlB W a c (pack kC1) → Calls Tryd.prog 28 #[.agg #[.slice a (pack kC1).length c, .int .i64 138], .agg #[.int .i64 2, .int .i64 20, .int .i64 10, .bool true, .int .u64 1, .int .u8 0, .int .u8 0], .agg #[.int .i64 20, .int .u64 1]] W (Ret W (.tuple #[bv none 0 0 0, .agg #[.int .i64 0, .int .i64 0, .int .i64 0, .bool false, .int .u64 0, .int .u8 0, .int .u8 0], .int .u16 60]))) :=
    hid (fun W a c hs => by
      have h0 := cput_time kC1 (by rw [kc2]; decide) a c ⟨2, 20, 10, ⟨true, 1, 0, 0⟩⟩ (by simp [En.wf, Vl.wf, i64ok]) (by decide) 20 (by decide) 1 W hs
      rw [kc2] at h0; exact h0)
  generalize (laid ⟨2, 20, 10, ⟨true, 1, 0, 0⟩⟩ 30 1).2 = q at *
  generalize kC1 = L1 at *
  generalize kC2 = L2 at *
  go_enter Tryd.func24, Tryd.ntmps24
  go_wp2_with (first | (go_at_call 26; (with_reducible refine (HK1.out _ _ _ (by repeat (first | with_reducible exact hT | with_reducible refine TabW.over ?_ _ | with_reducible refine TabW.alloc ?_ _ | with_reducible refine TabW.drew ?_ | ((with_reducible refine TabW.setCell ?_ ?_ _); rotate_left; (first | (focus (simp; done)) | (focus (simp; omega)))) | ((with_reducible refine TabW.chg ?_ _ ?_); rotate_left; (first | assumption | (focus (simp; done)) | (focus (simp; omega)))) | exact hT)) (by (repeat with_reducible refine Sl.drew ?_); refine Sl.lit_as (xs := [⟨10, 1⟩, ⟨20, 1⟩]) Sm.cs_len ?_ ?_ ?_ ?_ <;> first | rfl | (simp; done) | (simp [maxLen]; done) | (simp [flat, Sm.cs]; done))).mono ?_); rintro _ _ ⟨a1, c1, rfl, ⟨e1, rfl⟩, s1⟩) | (go_at_call 28; (with_reducible refine (HK2.out _ _ _ (by repeat (first | with_reducible exact hT | with_reducible refine TabW.over ?_ _ | with_reducible refine TabW.alloc ?_ _ | with_reducible refine TabW.drew ?_ | ((with_reducible refine TabW.setCell ?_ ?_ _); rotate_left; (first | (focus (simp; done)) | (focus (simp; omega)))) | ((with_reducible refine TabW.chg ?_ _ ?_); rotate_left; (first | assumption | (focus (simp; done)) | (focus (simp; omega)))) | exact hT)) (by repeat (first | with_reducible exact s1 | with_reducible refine Sl.over ?_ _ | with_reducible refine Sl.alloc ?_ _ | with_reducible refine Sl.drew ?_ | exact s1))).mono ?_); rintro _ _ ⟨a2, c2, rfl, ⟨e2, rfl⟩, s2⟩) | (go_at_call 28; (with_reducible refine (HK3.out _ _ _ (by repeat (first | with_reducible exact s1 | with_reducible refine Sl.over ?_ _ | with_reducible refine Sl.alloc ?_ _ | with_reducible refine Sl.drew ?_ | exact s1))).mono ?_); rintro _ _ ⟨⟨e3, rfl⟩, rfl⟩))
  go_ret
  exact ⟨(by (try unfold Ov); repeat (first | with_reducible exact ex_over | with_reducible exact over_self _ | with_reducible refine ex_undrew ?_ | with_reducible refine ex_into ?_ _ | with_reducible refine ex_alloc ?_ _ | with_reducible refine ex_drew ?_ | ((with_reducible refine ex_setCell ?_ ?_ _); rotate_left; (first | omega | (focus (simp; done)) | (focus (simp; omega)))) | ((with_reducible refine ex_chg ?_ _ ?_); rotate_left; (first | assumption | (exact Hid.out (by assumption)))) | exact ex_over)), rfl⟩
end Go.Proofs.YthljlajdkdgieaaDoor
namespace Go.Proofs.YthljlajdkdgieaaDoor
set_option linter.unusedVariables false
set_option linter.unusedSimpArgs false
open Go.RowKit
attribute [local go_sem] over_drew chg_drew

theorem sample_elem : ElemOf Tryd.prog 39 47 2 16 := elemOf (z := .agg #[.int .i64 0, .int .u64 0]) (by kernel_rfl) (by kernel_rfl) rfl (by decide)
abbrev OwnM (base : Nat) (w : World) (v : Value) (l : List Sm) : Prop := Own base 47 2 Sm.cs w v l

/-- One that comes behind is kept. -/
def rstep (acc : List Sm) (x : Sm) : List Sm := if comes (knowC En.zero acc) x.t then acc ++ [x] else acc
def riseC (xs : List Sm) : List Sm := xs.foldl rstep []
theorem rise_take {xs : List Sm} {k : Nat} (h : k < xs.length) : riseC (xs.take (k + 1)) = rstep (riseC (xs.take k)) xs[k] := by
  rw [takeC_get h]; unfold riseC; rw [List.foldl_append]; rfl
theorem rise_ok (xs : List Sm) (h : ∀ s ∈ xs, s.wf) : (∀ s ∈ riseC xs, s.wf) ∧ goodC En.zero (riseC xs) ∧ (riseC xs).length ≤ xs.length := by
  have key : ∀ (l acc : List Sm), (∀ s ∈ l, s.wf) → (∀ s ∈ acc, s.wf) → goodC En.zero acc → (∀ s ∈ l.foldl rstep acc, s.wf) ∧ goodC En.zero (l.foldl rstep acc) ∧ (l.foldl rstep acc).length ≤ acc.length + l.length := by
    intro l
    induction l with
    | nil => intro acc _ h2 h3; exact ⟨h2, h3, by simp⟩
    | cons x r ih =>
      intro acc h1 h2 h3
      simp only [List.foldl_cons]
      have hx := h1 x (by simp)
      have hr : ∀ s ∈ r, s.wf := fun s hs => h1 s (by simp [hs])
      unfold rstep
      split
      · rename_i hc
        have h4 := ih (acc ++ [x]) hr (by intro s hs; rcases List.mem_append.1 hs with h' | h'; exact h2 s h'; simp at h'; subst h'; exact hx) ((goodC_snoc _ _ _).2 ⟨h3, hc⟩)
        unfold rstep at h4
        exact ⟨h4.1, h4.2.1, by have := h4.2.2; simp at this ⊢; omega⟩
      · have h4 := ih acc hr h2 h3
        unfold rstep at h4
        exact ⟨h4.1, h4.2.1, by have := h4.2.2; simp at this ⊢; omega⟩
  have := key xs [] h (by simp) trivial
  simpa [riseC] using this
theorem comes_get {acc : List Sm} (hw : ∀ s ∈ acc, s.wf) (hl : acc.length ≤ 1000000) (hne : acc.length - 1 < acc.length) (t : Int) : comes (knowC En.zero acc) t ↔ acc[acc.length - 1].t < t := by
  have hn := (knowZ hw hl).2.2
  unfold comes
  rw [hn]
  rcases List.eq_nil_or_concat acc with rfl | ⟨r, s, hrs⟩
  · simp at hne
  · rw [List.concat_eq_append] at hrs
    subst hrs
    rw [knowC_last]
    simp
    omega

set_option maxRecDepth 100000 in
set_option maxHeartbeats 4000000 in
theorem rising_any (xs : List Sm) (hx : ∀ s ∈ xs, s.wf) (hl : xs.length ≤ 4000) (a : Option Addr) (cap : Nat) (w : World) (hs : SlM w a cap xs) :
    Calls Tryd.prog 25 #[.slice a xs.length cap] w (Gives w fun v w' => OwnM w.heap.size w' v (riseC xs)) := by
  go_enter Tryd.func25, Tryd.ntmps25
  go_wp2_with fail
  go_loopw [3, 4] (fun o i wr => ∃ (k : Nat), k ≤ xs.length ∧ i = .int .i64 (k : Nat) ∧ Ov w wr ∧ OwnM w.heap.size wr o (riseC (xs.take k))) (fun _ i _ => xs.length - (intOf i).toNat)
  case atStart => exact ⟨0, Nat.zero_le _, rfl, (by (try unfold Ov); repeat (first | with_reducible exact ex_over | with_reducible exact over_self _ | with_reducible refine ex_undrew ?_ | with_reducible refine ex_into ?_ _ | with_reducible refine ex_alloc ?_ _ | with_reducible refine ex_drew ?_ | ((with_reducible refine ex_setCell ?_ ?_ _); rotate_left; (first | omega | (focus (simp; done)) | (focus (simp; omega)))) | ((with_reducible refine ex_chg ?_ _ ?_); rotate_left; (first | assumption | (exact Hid.out (by assumption)))) | exact ex_over)), Own.nil _⟩
  case round =>
    obtain ⟨k, hk, rfl, ⟨e0, rfl⟩, hown⟩ := hrel
    have hxk : ∀ s ∈ xs.take k, s.wf := fun s hs => hx s (List.mem_of_mem_take hs)
    obtain ⟨hr1, hr2, hr3⟩ := rise_ok (xs.take k) hxk
    rw [List.length_take, Nat.min_eq_left hk] at hr3
    by_cases hlt : k < xs.length
    · obtain ⟨b6, o6, rfl, hb6, k0, k1⟩ := SlM.at_ hs hlt
      have hv := hx xs[k] (List.getElem_mem hlt)
      have hst := rise_take hlt
      generalize riseC (xs.take k) = acc at *
      obtain ⟨ao, co, rfl, sA⟩ := Own.slice Sm.cs_len hown
      have HO := hid hown
      clear hown
      by_cases hz : acc.length = 0
      · have hz' : ((acc.length : Int) == 0) = true := by rw [hz]; rfl
        have hn : acc = [] := List.eq_nil_of_length_eq_zero hz
        have HS := hid (show riseC (xs.take (k + 1)) = acc ++ [xs[k]] by rw [hst]; unfold rstep; rw [if_pos (by rw [hn]; exact .inl rfl)])
        clear hst hn hr1 hr2
        generalize xs[k] = x at *
        go_wp2_with fail
        refine wp_region_over (by kernel_rfl) (by kernel_rfl) ?_
        repeat (go_big_quiet_step ((fail)))
        refine wpQuiet_nil ?_
        intro _ hw'
        obtain ⟨nq, rfl⟩ := hw'
        go_wp2_with (at_builtin; refine wpList_append sample_elem Sm.cs_len Sm.cs_one rfl (.tmp 29) (.tmp 34) rfl (B := w) (xs := [x]) HO.out rfl rfl (by (try unfold Ov); repeat (first | with_reducible exact ex_over | with_reducible exact over_self _ | with_reducible refine ex_undrew ?_ | with_reducible refine ex_into ?_ _ | with_reducible refine ex_alloc ?_ _ | with_reducible refine ex_drew ?_ | ((with_reducible refine ex_setCell ?_ ?_ _); rotate_left; (first | omega | (focus (simp; done)) | (focus (simp; omega)))) | ((with_reducible refine ex_chg ?_ _ ?_); rotate_left; (first | assumption | (exact Hid.out (by assumption)))) | exact ex_over)) (by (try unfold Ov); repeat (first | with_reducible exact ex_over | with_reducible exact over_self _ | with_reducible refine ex_undrew ?_ | with_reducible refine ex_into ?_ _ | with_reducible refine ex_alloc ?_ _ | with_reducible refine ex_drew ?_ | ((with_reducible refine ex_setCell ?_ ?_ _); rotate_left; (first | omega | (focus (simp; done)) | (focus (simp; omega)))) | ((with_reducible refine ex_chg ?_ _ ?_); rotate_left; (first | assumption | (exact Hid.out (by assumption)))) | exact ex_over)) (by first | assumption | (simp; done) | (simp; omega) | omega) (by first | assumption | (simp; done) | (simp; omega) | omega) (by (repeat with_reducible refine Sl.drew ?_); exact Sl.one_new (y := x) (by simp; try omega)) (by simp only [List.length_append, List.length_singleton, List.length_nil]; unfold maxLen; omega) (by simp only [List.length_append, List.length_singleton, List.length_nil]; omega) ?_; intro v' x' hown' _ _)
        go_roundw
        case rel => exact ⟨k + 1, by omega, by go_num, (by (try unfold Ov); repeat (first | with_reducible exact ex_over | with_reducible exact over_self _ | with_reducible refine ex_undrew ?_ | with_reducible refine ex_into ?_ _ | with_reducible refine ex_alloc ?_ _ | with_reducible refine ex_drew ?_ | ((with_reducible refine ex_setCell ?_ ?_ _); rotate_left; (first | omega | (focus (simp; done)) | (focus (simp; omega)))) | ((with_reducible refine ex_chg ?_ _ ?_); rotate_left; (first | assumption | (exact Hid.out (by assumption)))) | exact ex_over)), by rw [HS.out]; exact hown'⟩
        case measure => (simp [intOf]; try omega)
      · have hz' : ((acc.length : Int) == 0) = false := by rw [beq_eq_false_iff_ne]; omega
        have hne : acc.length - 1 < acc.length := by omega
        obtain ⟨b7, o7, rfl, hb7, j0, j1⟩ := SlM.at_ sA hne
        have hb7' : b7 < w.heap.size + e0.heap.size := by simpa using hb7
        have hci := comes_get hr1 (by omega) hne xs[k].t
        have hidx : ((acc.length : Int) - 1) = ((acc.length - 1 : Nat) : Int) := by omega
        by_cases hc : comes (knowC En.zero acc) xs[k].t
        · have HS := hid (show riseC (xs.take (k + 1)) = acc ++ [xs[k]] by rw [hst]; unfold rstep; rw [if_pos hc])
          have hlt2 := hci.1 hc
          clear hst hr1 hr2 hci hc
          generalize acc[acc.length - 1] = y at *
          generalize xs[k] = x at *
          go_wp2_with fail
          refine wp_region_over (by kernel_rfl) (by kernel_rfl) ?_
          repeat (go_big_quiet_step ((fail)))
          refine wpQuiet_nil ?_
          intro _ hw'
          obtain ⟨nq, rfl⟩ := hw'
          go_wp2_with (at_builtin; refine wpList_append sample_elem Sm.cs_len Sm.cs_one rfl (.tmp 29) (.tmp 34) rfl (B := w) (xs := [x]) HO.out rfl rfl (by (try unfold Ov); repeat (first | with_reducible exact ex_over | with_reducible exact over_self _ | with_reducible refine ex_undrew ?_ | with_reducible refine ex_into ?_ _ | with_reducible refine ex_alloc ?_ _ | with_reducible refine ex_drew ?_ | ((with_reducible refine ex_setCell ?_ ?_ _); rotate_left; (first | omega | (focus (simp; done)) | (focus (simp; omega)))) | ((with_reducible refine ex_chg ?_ _ ?_); rotate_left; (first | assumption | (exact Hid.out (by assumption)))) | exact ex_over)) (by (try unfold Ov); repeat (first | with_reducible exact ex_over | with_reducible exact over_self _ | with_reducible refine ex_undrew ?_ | with_reducible refine ex_into ?_ _ | with_reducible refine ex_alloc ?_ _ | with_reducible refine ex_drew ?_ | ((with_reducible refine ex_setCell ?_ ?_ _); rotate_left; (first | omega | (focus (simp; done)) | (focus (simp; omega)))) | ((with_reducible refine ex_chg ?_ _ ?_); rotate_left; (first | assumption | (exact Hid.out (by assumption)))) | exact ex_over)) (by first | assumption | (simp; done) | (simp; omega) | omega) (by first | assumption | (simp; done) | (simp; omega) | omega) (by (repeat with_reducible refine Sl.drew ?_); exact Sl.one_new (y := x) (by simp; try omega)) (by simp only [List.length_append, List.length_singleton, List.length_nil]; unfold maxLen; omega) (by simp only [List.length_append, List.length_singleton, List.length_nil]; omega) ?_; intro v' x' hown' _ _)
          go_roundw
          case rel => exact ⟨k + 1, by omega, by go_num, (by (try unfold Ov); repeat (first | with_reducible exact ex_over | with_reducible exact over_self _ | with_reducible refine ex_undrew ?_ | with_reducible refine ex_into ?_ _ | with_reducible refine ex_alloc ?_ _ | with_reducible refine ex_drew ?_ | ((with_reducible refine ex_setCell ?_ ?_ _); rotate_left; (first | omega | (focus (simp; done)) | (focus (simp; omega)))) | ((with_reducible refine ex_chg ?_ _ ?_); rotate_left; (first | assumption | (exact Hid.out (by assumption)))) | exact ex_over)), by rw [HS.out]; exact hown'⟩
          case measure => (simp [intOf]; try omega)
        · have HS := hid (show riseC (xs.take (k + 1)) = acc by rw [hst]; unfold rstep; rw [if_neg hc])
          have hlt2 : ¬ acc[acc.length - 1].t < xs[k].t := fun h => hc (hci.2 h)
          clear hst hr1 hr2 hci hc
          generalize acc[acc.length - 1] = y at *
          generalize xs[k] = x at *
          go_wp2_with fail
          refine wp_region_over (by kernel_rfl) (by kernel_rfl) ?_
          repeat (go_big_quiet_step ((fail)))
          refine wpQuiet_nil ?_
          intro _ hw'
          obtain ⟨nq, rfl⟩ := hw'
          go_wp2_with fail
          go_roundw
          case rel => exact ⟨k + 1, by omega, by go_num, (by (try unfold Ov); repeat (first | with_reducible exact ex_over | with_reducible exact over_self _ | with_reducible refine ex_undrew ?_ | with_reducible refine ex_into ?_ _ | with_reducible refine ex_alloc ?_ _ | with_reducible refine ex_drew ?_ | ((with_reducible refine ex_setCell ?_ ?_ _); rotate_left; (first | omega | (focus (simp; done)) | (focus (simp; omega)))) | ((with_reducible refine ex_chg ?_ _ ?_); rotate_left; (first | assumption | (exact Hid.out (by assumption)))) | exact ex_over)), by rw [HS.out]; exact (by repeat (first | with_reducible exact HO.out | ((with_reducible refine Own.set_ne ?_ ?_ _); rotate_left; (first | assumption | (focus (simp; done)) | (focus (simp [Value.ownBlock]; done)) | (focus (simp [Value.ownBlock]; omega)))) | ((with_reducible refine Own.in_some ?_ _ ?_); rotate_left; (first | assumption | (focus (simp; done)) | (focus (simp; omega)))) | ((with_reducible refine Own.in_one ?_ _ ?_); rotate_left; (first | assumption | (focus (simp [Value.ownBlock]; done)) | (focus (simp [Value.ownBlock]; omega)))) | ((with_reducible refine Own.chg ?_ (chg_chg _ _ _) ?_); rotate_left; (first | assumption | (focus (simp; done)) | (focus (simp; omega)))) | with_reducible refine Own.over ?_ _ | with_reducible refine Own.alloc ?_ _ | with_reducible refine Own.drew ?_ | exact HO.out))⟩
          case measure => (simp [intOf]; try omega)
    · obtain rfl : k = xs.length := by omega
      rw [List.take_length] at *
      go_wp2_with fail
      go_ret
      exact ⟨(by (try unfold Ov); repeat (first | with_reducible exact ex_over | with_reducible exact over_self _ | with_reducible refine ex_undrew ?_ | with_reducible refine ex_into ?_ _ | with_reducible refine ex_alloc ?_ _ | with_reducible refine ex_drew ?_ | ((with_reducible refine ex_setCell ?_ ?_ _); rotate_left; (first | omega | (focus (simp; done)) | (focus (simp; omega)))) | ((with_reducible refine ex_chg ?_ _ ?_); rotate_left; (first | assumption | (exact Hid.out (by assumption)))) | exact ex_over)), _, rfl, hown⟩

theorem Sm.eq_of {x y : Sm} (h1 : x.t = y.t) (h2 : x.v = y.v) : x = y := by cases x; cases y; simp_all
set_option maxRecDepth 100000 in
set_option maxHeartbeats 4000000 in
theorem rcsame_any (xs ys : List Sm) (hl : xs.length ≤ 1000000) (a : Option Addr) (c : Nat) (b : Option Addr) (d : Nat) (w : World) (h1 : SlM w a c xs) (h2 : SlM w b d ys) :
    Calls Tryd.prog 27 #[.slice a xs.length c, .slice b ys.length d] w (Ret w (.bool (decide (xs = ys)))) := by
  by_cases hlen : xs.length = ys.length
  · have HL := hid hlen
    rw [← hlen]
    clear hlen
    go_enter Tryd.func27, Tryd.ntmps27
    go_wp2_with fail
    go_loopw [5] (fun i wr => ∃ (k : Nat), k ≤ xs.length ∧ i = .int .i64 (k : Nat) ∧ Ov w wr ∧ Hid (xs.take k = ys.take k)) (fun i _ => xs.length - (intOf i).toNat)
    case atStart => exact ⟨0, Nat.zero_le _, rfl, (by (try unfold Ov); repeat (first | with_reducible exact ex_over | with_reducible exact over_self _ | with_reducible refine ex_undrew ?_ | with_reducible refine ex_into ?_ _ | with_reducible refine ex_alloc ?_ _ | with_reducible refine ex_drew ?_ | ((with_reducible refine ex_setCell ?_ ?_ _); rotate_left; (first | omega | (focus (simp; done)) | (focus (simp; omega)))) | ((with_reducible refine ex_chg ?_ _ ?_); rotate_left; (first | assumption | (exact Hid.out (by assumption)))) | exact ex_over)), hid rfl⟩
    case round =>
      obtain ⟨k, hk, rfl, ⟨e0, rfl⟩, HE⟩ := hrel
      by_cases hlt : k < xs.length
      · have hlt2 : k < ys.length := HL.out ▸ hlt
        obtain ⟨b6, o6, rfl, hb6, k0, k1⟩ := SlM.at_ h1 hlt
        obtain ⟨b7, o7, rfl, hb7, j0, j1⟩ := SlM.at_ h2 hlt2
        have hx := hid (takeC_get hlt)
        have hy := hid (takeC_get hlt2)
        by_cases hxy : xs[k] = ys[k]
        · have HN : Hid (xs.take (k + 1) = ys.take (k + 1)) := hid (by rw [hx.out, hy.out, HE.out, hxy])
          rw [← hxy] at j0 j1
          clear hx hy hxy
          generalize xs[k] = x at *
          go_wp2_with fail
          refine wp_region_over (by kernel_rfl) (by kernel_rfl) ?_
          repeat (go_big_quiet_step ((fail)))
          refine wpQuiet_nil ?_
          intro _ hw'
          obtain ⟨nq, rfl⟩ := hw'
          go_wp2_with fail
          go_roundw
          case rel => exact ⟨k + 1, by omega, by go_num, (by (try unfold Ov); repeat (first | with_reducible exact ex_over | with_reducible exact over_self _ | with_reducible refine ex_undrew ?_ | with_reducible refine ex_into ?_ _ | with_reducible refine ex_alloc ?_ _ | with_reducible refine ex_drew ?_ | ((with_reducible refine ex_setCell ?_ ?_ _); rotate_left; (first | omega | (focus (simp; done)) | (focus (simp; omega)))) | ((with_reducible refine ex_chg ?_ _ ?_); rotate_left; (first | assumption | (exact Hid.out (by assumption)))) | exact ex_over)), HN⟩
          case measure => (simp [intOf]; try omega)
        · have HN : Hid (decide (xs = ys) = false) := hid (decide_eq_false (fun h => hxy (by subst h; rfl)))
          have hd : xs[k].t ≠ ys[k].t ∨ xs[k].v ≠ ys[k].v := by
            by_cases h : xs[k].t = ys[k].t
            · exact .inr fun h' => hxy (Sm.eq_of h h')
            · exact .inl h
          rw [HN.out]
          clear hx hy hxy HN
          generalize xs[k] = x at *
          generalize ys[k] = y at *
          rcases hd with hd | hd
          · have hd' : (x.t == y.t) = false := by simp; exact hd
            go_wp2_with fail
            refine wp_region_over (by kernel_rfl) (by kernel_rfl) ?_
            repeat (go_big_quiet_step ((fail)))
            refine wpQuiet_nil ?_
            intro _ hw'
            obtain ⟨nq, rfl⟩ := hw'
            go_wp2_with fail
            go_ret
            exact ⟨(by (try unfold Ov); repeat (first | with_reducible exact ex_over | with_reducible exact over_self _ | with_reducible refine ex_undrew ?_ | with_reducible refine ex_into ?_ _ | with_reducible refine ex_alloc ?_ _ | with_reducible refine ex_drew ?_ | ((with_reducible refine ex_setCell ?_ ?_ _); rotate_left; (first | omega | (focus (simp; done)) | (focus (simp; omega)))) | ((with_reducible refine ex_chg ?_ _ ?_); rotate_left; (first | assumption | (exact Hid.out (by assumption)))) | exact ex_over)), rfl⟩
          · have hd' : ((x.v : Int) == (y.v : Int)) = false := by simp; omega
            go_wp2_with fail
            refine wp_region_over (by kernel_rfl) (by kernel_rfl) ?_
            repeat (go_big_quiet_step ((fail)))
            refine wpQuiet_nil ?_
            intro _ hw'
            obtain ⟨nq, rfl⟩ := hw'
            go_wp2_with fail
            go_ret
            exact ⟨(by (try unfold Ov); repeat (first | with_reducible exact ex_over | with_reducible exact over_self _ | with_reducible refine ex_undrew ?_ | with_reducible refine ex_into ?_ _ | with_reducible refine ex_alloc ?_ _ | with_reducible refine ex_drew ?_ | ((with_reducible refine ex_setCell ?_ ?_ _); rotate_left; (first | omega | (focus (simp; done)) | (focus (simp; omega)))) | ((with_reducible refine ex_chg ?_ _ ?_); rotate_left; (first | assumption | (exact Hid.out (by assumption)))) | exact ex_over)), rfl⟩
      · have HN : Hid (decide (xs = ys) = true) := hid (decide_eq_true (by have h := HE.out; rw [List.take_of_length_le (by omega), List.take_of_length_le (by have := HL.out; omega)] at h; exact h))
        obtain rfl : k = xs.length := by omega
        go_wp2_with fail
        go_ret
        exact ⟨(by (try unfold Ov); repeat (first | with_reducible exact ex_over | with_reducible exact over_self _ | with_reducible refine ex_undrew ?_ | with_reducible refine ex_into ?_ _ | with_reducible refine ex_alloc ?_ _ | with_reducible refine ex_drew ?_ | ((with_reducible refine ex_setCell ?_ ?_ _); rotate_left; (first | omega | (focus (simp; done)) | (focus (simp; omega)))) | ((with_reducible refine ex_chg ?_ _ ?_); rotate_left; (first | assumption | (exact Hid.out (by assumption)))) | exact ex_over)), by rw [HN.out]; rfl⟩
  · have HN : Hid (decide (xs = ys) = false) := hid (decide_eq_false (fun h => hlen (by rw [h])))
    rw [HN.out]
    have h' : ((xs.length : Int) != (ys.length : Int)) = true := by simp; omega
    go_enter Tryd.func27, Tryd.ntmps27
    go_wp2_with fail
    go_ret
    exact ⟨(by (try unfold Ov); repeat (first | with_reducible exact ex_over | with_reducible exact over_self _ | with_reducible refine ex_undrew ?_ | with_reducible refine ex_into ?_ _ | with_reducible refine ex_alloc ?_ _ | with_reducible refine ex_drew ?_ | ((with_reducible refine ex_setCell ?_ ?_ _); rotate_left; (first | omega | (focus (simp; done)) | (focus (simp; omega)))) | ((with_reducible refine ex_chg ?_ _ ?_); rotate_left; (first | assumption | (exact Hid.out (by assumption)))) | exact ex_over)), rfl⟩
end Go.Proofs.YthljlajdkdgieaaDoor
