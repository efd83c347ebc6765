/- Texts merged: ChkO, ChkK. -/
import Derived.Test.YthljlajdkdgieaaDoorGF
import Derived.Test.YthljlajdkdgieaaDoorGL
import Derived.Test.YthljlajdkdgieaaDoorGC
namespace Go.Proofs.YthljlajdkdgieaaDoor
set_option linter.unusedVariables false
set_option linter.unusedSimpArgs false
open Go.RowKit
attribute [local go_sem] over_drew chg_drew

def En.cs (e : En) : List Value := [.int .i64 e.n, .int .i64 e.last, .int .i64 e.delta, .bool e.val.has, .int .u64 (e.val.prev : Nat), .int .u8 (e.val.lead : Nat), .int .u8 (e.val.width : Nat)]

/-- The state of the loop. -/
structure OfRel (w : World) (p1 p2 p3 p4 : Nat) (xs : List Sm) (k : Nat) (wr : World) : Prop where
  ov : ∃ e, wr = over w e
  good : goodC En.zero (xs.take k)
  b1 : Blk wr p1 [.slice none 0 0, .int .i64 0] 29
  b2 : Blk wr p2 En.zero.cs 42
  b3 : ∃ a c, Blk wr p3 [.slice a (pack (bitsC En.zero (xs.take k))).length c, .int .i64 ((bitsC En.zero (xs.take k)).length : Nat)] 29 ∧ OwnB (p4 + 1) wr (.slice a (pack (bitsC En.zero (xs.take k))).length c) (pack (bitsC En.zero (xs.take k)))
  b4 : Blk wr p4 (knowC En.zero (xs.take k)).cs 42

section
variable {W e8 : World} {p3 p4 : Nat} {u0 u1 v0 v1 v2 v3 v4 v5 v6 : Value} {lit : Obj}
theorem of_p3 {x0 x1 : Value} {t : TypeId} (h : Blk W p3 [x0, x1] t) (n34 : ¬ p3 = p4) : Blk (over ((((((((((W.setCell ⟨p3, 0, none⟩ u0).setCell ⟨p3, 1, none⟩ u1).setCell ⟨p4, 0, none⟩ v0).setCell ⟨p4, 1, none⟩ v1).setCell ⟨p4, 2, none⟩ v2).setCell ⟨p4, 3, none⟩ v3).setCell ⟨p4, 4, none⟩ v4).setCell ⟨p4, 5, none⟩ v5).setCell ⟨p4, 6, none⟩ v6).alloc lit) e8) p3 [u0, u1] t := by
  refine Blk.on (Blk.alloc (Blk.set_ne (Blk.set_ne (Blk.set_ne (Blk.set_ne (Blk.set_ne (Blk.set_ne (Blk.set_ne ?_ n34 _) n34 _) n34 _) n34 _) n34 _) n34 _) n34 _) _) _
  exact (h.set 0 u0).set 1 u1
theorem of_old {q : Nat} {cs : List Value} {t : TypeId} (h : Blk W q cs t) (n3 : ¬ q = p3) (n4 : ¬ q = p4) : Blk (over ((((((((((W.setCell ⟨p3, 0, none⟩ u0).setCell ⟨p3, 1, none⟩ u1).setCell ⟨p4, 0, none⟩ v0).setCell ⟨p4, 1, none⟩ v1).setCell ⟨p4, 2, none⟩ v2).setCell ⟨p4, 3, none⟩ v3).setCell ⟨p4, 4, none⟩ v4).setCell ⟨p4, 5, none⟩ v5).setCell ⟨p4, 6, none⟩ v6).alloc lit) e8) q cs t := by
  refine Blk.on (Blk.alloc ?_ _) _
  exact Blk.set_ne (Blk.set_ne (Blk.set_ne (Blk.set_ne (Blk.set_ne (Blk.set_ne (Blk.set_ne (Blk.set_ne (Blk.set_ne h n3 u0) n3 u1) n4 v0) n4 v1) n4 v2) n4 v3) n4 v4) n4 v5) n4 v6
theorem of_p4 {x0 x1 x2 x3 x4 x5 x6 : Value} {t : TypeId} (h : Blk W p4 [x0, x1, x2, x3, x4, x5, x6] t) (n43 : ¬ p4 = p3) : Blk (over ((((((((((W.setCell ⟨p3, 0, none⟩ u0).setCell ⟨p3, 1, none⟩ u1).setCell ⟨p4, 0, none⟩ v0).setCell ⟨p4, 1, none⟩ v1).setCell ⟨p4, 2, none⟩ v2).setCell ⟨p4, 3, none⟩ v3).setCell ⟨p4, 4, none⟩ v4).setCell ⟨p4, 5, none⟩ v5).setCell ⟨p4, 6, none⟩ v6).alloc lit) e8) p4 [v0, v1, v2, v3, v4, v5, v6] t := by
  refine Blk.on (Blk.alloc ?_ _) _
  exact (((((((Blk.set_ne (Blk.set_ne h n43 u0) n43 u1).set 0 v0).set 1 v1).set 2 v2).set 3 v3).set 4 v4).set 5 v5).set 6 v6
theorem of_next {w : World} {p1 p2 : Nat} {xs : List Sm} {k : Nat} {a3 a7 : Option Addr} {c3 c7 : Nat} {L' : List Bool} {t' : En} {L0 : List Bool} {t0 : En} (hov : ∃ e, W = over w e) (hg : goodC En.zero (xs.take (k + 1))) (hL : bitsC En.zero (xs.take (k + 1)) = L') (ht : knowC En.zero (xs.take (k + 1)) = t')
    (b1 : Blk W p1 [.slice none 0 0, .int .i64 0] 29) (b2 : Blk W p2 En.zero.cs 42) (b3 : Blk W p3 [.slice a3 (pack L0).length c3, .int .i64 (L0.length : Nat)] 29) (b4 : Blk W p4 t0.cs 42)
    (h1 : w.heap.size ≤ p1) (h2 : p1 < p2) (h3 : p2 < p3) (h4 : p3 < p4)
    (ho : OwnB (W.alloc lit).heap.size (over (W.alloc lit) e8) (.slice a7 (pack L').length c7) (pack L')) :
    OfRel w p1 p2 p3 p4 xs (k + 1) (over ((((((((((W.setCell ⟨p3, 0, none⟩ (.slice a7 (pack L').length c7)).setCell ⟨p3, 1, none⟩ (.int .i64 (L'.length : Nat))).setCell ⟨p4, 0, none⟩ (.int .i64 t'.n)).setCell ⟨p4, 1, none⟩ (.int .i64 t'.last)).setCell ⟨p4, 2, none⟩ (.int .i64 t'.delta)).setCell ⟨p4, 3, none⟩ (.bool t'.val.has)).setCell ⟨p4, 4, none⟩ (.int .u64 (t'.val.prev : Nat))).setCell ⟨p4, 5, none⟩ (.int .u8 (t'.val.lead : Nat))).setCell ⟨p4, 6, none⟩ (.int .u8 (t'.val.width : Nat))).alloc lit) e8) := by
  have l4 := b4.lt
  subst hL ht
  refine ⟨?_, hg, of_old b1 (by omega) (by omega), of_old b2 (by omega) (by omega), ⟨a7, c7, of_p3 b3 (by omega), Own.mono (Own.over_swap ho (by simp) (Nat.le_refl _)) (by simp; omega)⟩, of_p4 b4 (by omega)⟩
  have h3' : w.heap.size ≤ p3 := by omega
  have h4' : w.heap.size ≤ p4 := by omega
  exact ex_into (ex_alloc (ex_setCell (ex_setCell (ex_setCell (ex_setCell (ex_setCell (ex_setCell (ex_setCell (ex_setCell (ex_setCell hov h3' _) h3' _) h4' _) h4' _) h4' _) h4' _) h4' _) h4' _) h4' _) _) _
end
set_option maxRecDepth 100000 in
set_option maxHeartbeats 4000000 in
theorem cof_any (xs : List Sm) (hx : ∀ s ∈ xs, s.wf) (hl : xs.length ≤ 4000) (a : Option Addr) (cap : Nat) (w : World) (hT : TabW w) (hs : SlM w a cap xs) :
    Calls Tryd.prog 26 #[.slice a xs.length cap] w (CoPost w (ofC xs)) := by
  go_enter Tryd.func26, Tryd.ntmps26
  go_wp2_with fail
  go_loopw [12] (fun i wr => ∃ (k : Nat), k ≤ xs.length ∧ i = .int .i64 (k : Nat) ∧ OfRel w w.heap.size (w.heap.size + 1) (w.heap.size + 1 + 1) (w.heap.size + 1 + 1 + 1) xs k wr) (fun i _ => xs.length - (intOf i).toNat)
  case atStart =>
    refine ⟨0, Nat.zero_le _, rfl, (by (try unfold Ov); repeat (first | with_reducible exact ex_over | with_reducible exact over_self _ | with_reducible refine ex_undrew ?_ | with_reducible refine ex_into ?_ _ | with_reducible refine ex_alloc ?_ _ | with_reducible refine ex_drew ?_ | ((with_reducible refine ex_setCell ?_ ?_ _); rotate_left; (first | omega | (focus (simp; done)) | (focus (simp; omega)))) | ((with_reducible refine ex_chg ?_ _ ?_); rotate_left; (first | assumption | (exact Hid.out (by assumption)))) | exact ex_over)), trivial, ?_, ?_, ⟨none, 0, ?_, ?_⟩, ?_⟩
    · exact Blk.alloc (Blk.alloc (Blk.alloc (Blk.new' (by simp)) _) _) _
    · show Blk _ _ [.int .i64 0, .int .i64 0, .int .i64 0, .bool false, .int .u64 0, .int .u8 0, .int .u8 0] _
      exact Blk.alloc (Blk.alloc (Blk.new' (by simp)) _) _
    · show Blk _ _ [.slice none (pack []).length 0, .int .i64 0] _
      rw [pack_nil]; exact Blk.alloc (Blk.new' (by simp)) _
    · show OwnB _ _ (.slice none (pack []).length 0) (pack [])
      rw [pack_nil]; exact Own.nil _
    · show Blk _ _ [.int .i64 0, .int .i64 0, .int .i64 0, .bool false, .int .u64 0, .int .u8 0, .int .u8 0] _
      exact (by repeat (first | exact Blk.new' (by simp; done) | exact Blk.new' rfl | with_reducible assumption | with_reducible refine Blk.alloc ?_ _ | with_reducible refine Blk.drew ?_ | with_reducible refine Blk.on ?_ _ | ((with_reducible refine Blk.chg ?_ (chg_chg _ _ _) ?_); rotate_left; (first | assumption | (focus (simp; done)) | (focus (simp; omega))))))
  case round =>
    obtain ⟨k, hk, rfl, ⟨e0, he0⟩, hg, hb1, hb2, ⟨a3, c3, hb3, ho3⟩, hb4⟩ := hrel
    have hp1 : w.heap.size < w.heap.size + 1 := by omega
    have hp2 : w.heap.size + 1 < w.heap.size + 1 + 1 := by omega
    have hp3 : w.heap.size + 1 + 1 < w.heap.size + 1 + 1 + 1 := by omega
    have hwp : w.heap.size ≤ w.heap.size := Nat.le_refl _
    generalize w.heap.size + 1 + 1 + 1 = p4 at *
    generalize w.heap.size + 1 + 1 = p3 at *
    generalize w.heap.size + 1 = p2 at *
    obtain ⟨p1, hp1'⟩ : ∃ p1, w.heap.size = p1 := ⟨_, rfl⟩
    rw [hp1'] at hp1 hwp hb1 ⊢
    rw [← hp1'] at hwp
    have H0 : Hid (∃ e, wr = over w e) := hid ⟨e0, he0⟩
    have HB1 := hid hb1
    have HB2 := hid hb2
    have HB3 := hid hb3
    have HB4 := hid hb4
    have HO3 := hid ho3
    clear he0 hb1 hb2 hb3 hb4 ho3
    have hxk : ∀ s ∈ xs.take k, s.wf := fun s hs => hx s (List.mem_of_mem_take hs)
    have hkn := knowZ hxk (by rw [List.length_take]; omega)
    have hbl := bitsZ_len hxk (by rw [List.length_take]; omega)
    rw [List.length_take] at hbl
    have l1 := HB1.out.lt
    have l2 := HB2.out.lt
    have l3 := HB3.out.lt
    have l4 := HB4.out.lt
    by_cases hlt : k < xs.length
    · obtain ⟨b6, o6, rfl, hb6, k0, k1⟩ := SlM.at_ hs hlt
      have hv := hx xs[k] (List.getElem_mem hlt)
      have hwr := knowC_snoc En.zero (xs.take k) xs[k]
      have hwr2 := bitsC_snoc En.zero (xs.take k) xs[k]
      have hwr3 := goodC_snoc En.zero (xs.take k) xs[k]
      have hbad := ofC_bad hlt
      rw [← takeC_get hlt] at hwr hwr2 hwr3
      have hsb : SlB wr a3 c3 (pack (bitsC En.zero (xs.take k))) := (Own.slice' bcs_len HO3.out).2
      generalize knowC En.zero (xs.take k) = t at *
      generalize bitsC En.zero (xs.take k) = L at *
      have kr0 : wr.cell? ⟨b6, o6 + k * 2, none⟩ = some (.int .i64 xs[k].t) := by obtain ⟨e0, rfl⟩ := H0.out; rw [cell_over _ _ _ _ hb6]; exact k0
      have kr1 : wr.cell? ⟨b6, o6 + k * 2 + 1, none⟩ = some (.int .u64 (xs[k].v : Nat)) := by obtain ⟨e0, rfl⟩ := H0.out; rw [cell_over _ _ _ _ hb6]; exact k1
      clear k0 k1
      have hbr : b6 < wr.heap.size := by omega
      generalize xs[k] = x at *
      by_cases hc : comes t x.t
      · have HW1 := hid hwr
        have HW2 := hid hwr2
        have HW3 := hid (hwr3.2 ⟨hg, hc⟩)
        have hw' := laid_sound (v := x.v) hkn.1 hkn.2.1 hv.1 hv.2 (by rw [hkn.2.2, List.length_take]; omega)
        have HP := hid (fun W h1 h2 => cput_yes L (by omega) a3 c3 t hkn.2.1 hkn.1 x.t hv.1 hc x.v hv.2 W h1 h2)
        generalize (laid t x.t x.v).2 = t' at *
        obtain ⟨L', hL'⟩ : ∃ L', L ++ (laid t x.t x.v).1 = L' := ⟨_, rfl⟩
        have HL' := hid hL'
        rw [hL'] at HP
        have r30 := HB3.out.cell 0 rfl
        have r31 := HB3.out.cell 1 rfl
        have g30 := HB3.out.free 0
        have g31 := HB3.out.free 1
        have r40 := HB4.out.cell 0 rfl
        have r41 := HB4.out.cell 1 rfl
        have r42 := HB4.out.cell 2 rfl
        have r43 := HB4.out.cell 3 rfl
        have r44 := HB4.out.cell 4 rfl
        have r45 := HB4.out.cell 5 rfl
        have r46 := HB4.out.cell 6 rfl
        have g40 := HB4.out.free 0
        have g41 := HB4.out.free 1
        have g42 := HB4.out.free 2
        have g43 := HB4.out.free 3
        have g44 := HB4.out.free 4
        have g45 := HB4.out.free 5
        have g46 := HB4.out.free 6
        have m31 : ∀ x, p3 < wr.heap.size + x := fun x => by omega
        have m32 : ∀ x y, p3 < wr.heap.size + x + y := fun x y => by omega
        have m33 : ∀ x y z, p3 < wr.heap.size + x + y + z := fun x y z => by omega
        have m41 : ∀ x, p4 < wr.heap.size + x := fun x => by omega
        have m42 : ∀ x y, p4 < wr.heap.size + x + y := fun x y => by omega
        have m43 : ∀ x y z, p4 < wr.heap.size + x + y + z := fun x y z => by omega
        have n34 : ¬ p3 = p4 := by omega
        have n43 : ¬ p4 = p3 := by omega
        clear hwr hwr2 hwr3 hbad hL' hw' hxk hs hkn
        go_wp2_with (go_at_call 28; (with_reducible refine (HP.out _ (TabW.ov hT (by (try unfold Ov); repeat (first | with_reducible exact H0.out | with_reducible exact H0.out | with_reducible refine ex_undrew ?_ | with_reducible refine ex_into ?_ _ | with_reducible refine ex_alloc ?_ _ | with_reducible refine ex_drew ?_ | ((with_reducible refine ex_setCell ?_ ?_ _); rotate_left; (first | omega | (focus (simp; done)) | (focus (simp; omega)))) | ((with_reducible refine ex_chg ?_ _ ?_); rotate_left; (first | assumption | (exact Hid.out (by assumption)))) | exact ex_over))) (by repeat (first | with_reducible exact hsb | with_reducible refine Sl.over ?_ _ | with_reducible refine Sl.alloc ?_ _ | with_reducible refine Sl.drew ?_ | exact hsb))).mono ?_); rintro _ _ ⟨a7, c7, rfl, ⟨e7, rfl⟩, ho7⟩; have HO7 := hid ho7; clear ho7)
        go_roundw
        case rel =>
          have hL1 := HL'.out
          refine ⟨k + 1, by omega, by go_num, ?_⟩
          with_reducible refine of_next H0.out HW3.out (HW2.out.trans hL1) HW1.out HB1.out HB2.out HB3.out HB4.out (Nat.le_of_eq hp1') hp1 hp2 hp3 HO7.out
        case measure => simp [intOf]; omega
      · have HP := hid (fun W h1 => cput_time L (by omega) a3 c3 t hkn.2.1 hkn.1 x.t hc x.v W h1)
        have hbad' := hbad hc
        rw [hbad']
        clear hbad hbad' hwr hwr2 hwr3
        clear hxk hs
        obtain ⟨hE1, hE2, hE3⟩ := hkn
        have HE3 := hid hE3
        clear hE3
        have HP' : Hid (∀ W, SlB W a3 c3 (pack L) → Calls Tryd.prog 28 #[bv a3 (pack L).length c3 L.length, t.v, smV x.t x.v] W (Ret W (.tuple #[bv none 0 0 0, .agg #[.int .i64 0, .int .i64 0, .int .i64 0, .bool false, .int .u64 0, .int .u8 0, .int .u8 0], .int .u16 60]))) := HP
        clear HP
        have r30 := HB3.out.cell 0 rfl
        have r31 := HB3.out.cell 1 rfl
        have g30 := HB3.out.free 0
        have g31 := HB3.out.free 1
        have r40 := HB4.out.cell 0 rfl
        have r41 := HB4.out.cell 1 rfl
        have r42 := HB4.out.cell 2 rfl
        have r43 := HB4.out.cell 3 rfl
        have r44 := HB4.out.cell 4 rfl
        have r45 := HB4.out.cell 5 rfl
        have r46 := HB4.out.cell 6 rfl
        have g40 := HB4.out.free 0
        have g41 := HB4.out.free 1
        have g42 := HB4.out.free 2
        have g43 := HB4.out.free 3
        have g44 := HB4.out.free 4
        have g45 := HB4.out.free 5
        have g46 := HB4.out.free 6
        have m31 : ∀ x, p3 < wr.heap.size + x := fun x => by omega
        have m32 : ∀ x y, p3 < wr.heap.size + x + y := fun x y => by omega
        have m33 : ∀ x y z, p3 < wr.heap.size + x + y + z := fun x y z => by omega
        have m41 : ∀ x, p4 < wr.heap.size + x := fun x => by omega
        have m42 : ∀ x y, p4 < wr.heap.size + x + y := fun x y => by omega
        have m43 : ∀ x y z, p4 < wr.heap.size + x + y + z := fun x y z => by omega
        have n34 : ¬ p3 = p4 := by omega
        have n43 : ¬ p4 = p3 := by omega
        have r10 := HB1.out.cell 0 rfl
        have r11 := HB1.out.cell 1 rfl
        have g10 := HB1.out.free 0
        have g11 := HB1.out.free 1
        have r20 := HB2.out.cell 0 rfl
        have r21 := HB2.out.cell 1 rfl
        have r22 := HB2.out.cell 2 rfl
        have r23 := HB2.out.cell 3 rfl
        have r24 := HB2.out.cell 4 rfl
        have r25 := HB2.out.cell 5 rfl
        have r26 := HB2.out.cell 6 rfl
        have g20 := HB2.out.free 0
        have g21 := HB2.out.free 1
        have g22 := HB2.out.free 2
        have g23 := HB2.out.free 3
        have g24 := HB2.out.free 4
        have g25 := HB2.out.free 5
        have g26 := HB2.out.free 6
        have m11 : ∀ x, p1 < wr.heap.size + x := fun x => by omega
        have m12 : ∀ x y, p1 < wr.heap.size + x + y := fun x y => by omega
        have m21 : ∀ x, p2 < wr.heap.size + x := fun x => by omega
        have m22 : ∀ x y, p2 < wr.heap.size + x + y := fun x y => by omega
        have n13 : ¬ p1 = p3 := by omega
        have n14 : ¬ p1 = p4 := by omega
        have n23 : ¬ p2 = p3 := by omega
        have n24 : ¬ p2 = p4 := by omega
        have n12 : ¬ p1 = p2 := by omega
        have n21 : ¬ p2 = p1 := by omega
        go_wp2_with (go_at_call 28; (with_reducible refine (HP'.out _ (by repeat (first | with_reducible exact hsb | with_reducible refine Sl.over ?_ _ | with_reducible refine Sl.alloc ?_ _ | with_reducible refine Sl.drew ?_ | exact hsb))).mono ?_); rintro _ _ ⟨⟨e1, rfl⟩, rfl⟩)
        (try simp only [Exit.inBlock, Exit.then])
        refine bodyPost_ret (v := ?rv28) ?rh28 rfl ?rp28
        case rh28 => (simp only [results, show Tryd.f26.results = #[.cell 2 29, .cell 3 42, .tmp 4] from rfl]; go_simp; rfl)
        have m1 : w.heap.size ≤ p1 := Nat.le_of_eq hp1'
        have m2 : w.heap.size ≤ p2 := by omega
        have m3 : w.heap.size ≤ p3 := by omega
        have m4 : w.heap.size ≤ p4 := by omega
        refine ⟨none, 0, rfl, (by (try unfold Ov); repeat (first | with_reducible exact H0.out | with_reducible exact H0.out | with_reducible refine ex_undrew ?_ | with_reducible refine ex_into ?_ _ | with_reducible refine ex_alloc ?_ _ | with_reducible refine ex_drew ?_ | ((with_reducible refine ex_setCell ?_ ?_ _); rotate_left; (first | omega | (focus (simp; done)) | (focus (simp; omega)))) | ((with_reducible refine ex_chg ?_ _ ?_); rotate_left; (first | assumption | (exact Hid.out (by assumption)))) | exact ex_over)), ?_⟩
        show OwnB _ _ (.slice none (pack []).length 0) (pack [])
        rw [pack_nil]; exact Own.nil _
    · obtain rfl : k = xs.length := by omega
      rw [List.take_length] at *
      have hof := ofC_good hg
      simp only [hof] at *
      clear hkn hbl hg hx hs hT hxk
      generalize knowC En.zero xs = t at *
      generalize bitsC En.zero xs = L at *
      have r10 := HB1.out.cell 0 rfl
      have r11 := HB1.out.cell 1 rfl
      have g10 := HB1.out.free 0
      have g11 := HB1.out.free 1
      have r20 := HB2.out.cell 0 rfl
      have r21 := HB2.out.cell 1 rfl
      have r22 := HB2.out.cell 2 rfl
      have r23 := HB2.out.cell 3 rfl
      have r24 := HB2.out.cell 4 rfl
      have r25 := HB2.out.cell 5 rfl
      have r26 := HB2.out.cell 6 rfl
      have g20 := HB2.out.free 0
      have g21 := HB2.out.free 1
      have g22 := HB2.out.free 2
      have g23 := HB2.out.free 3
      have g24 := HB2.out.free 4
      have g25 := HB2.out.free 5
      have g26 := HB2.out.free 6
      have r30 := HB3.out.cell 0 rfl
      have r31 := HB3.out.cell 1 rfl
      have r40 := HB4.out.cell 0 rfl
      have r41 := HB4.out.cell 1 rfl
      have r42 := HB4.out.cell 2 rfl
      have r43 := HB4.out.cell 3 rfl
      have r44 := HB4.out.cell 4 rfl
      have r45 := HB4.out.cell 5 rfl
      have r46 := HB4.out.cell 6 rfl
      obtain ⟨F, hF⟩ : ∃ F, F = [p1, p2] := ⟨_, rfl⟩
      have i1 : p1 ∈ F := by rw [hF]; simp
      have i2 : p2 ∈ F := by rw [hF]; simp
      have i3 : p3 ∉ F := by rw [hF]; simp; omega
      have i4 : p4 ∉ F := by rw [hF]; simp; omega
      have HF : Hid (∀ i ∈ F, w.heap.size ≤ i) := hid (by rw [hF]; simp; omega)
      have HF2 : Hid (∀ i ∈ F, i < p4 + 1) := hid (by rw [hF]; simp; omega)
      have n12 : ¬ p1 = p2 := by omega
      have n21 : ¬ p2 = p1 := by omega
      clear hF
      go_wp2_with fail
      refine M2.wp_region_mixZ (fun w' => ∃ m : Mut, w' = chg F _ m) [2, 3] 5 (by kernel_rfl) (by kernel_rfl) (by decide) (chg_of (Chg.refl _ _)) ?_
      simp only [List.take_succ_cons, List.take_zero, List.drop_succ_cons, List.drop_zero]
      with_reducible refine M2.mixL_quiet 2 (by kernel_rfl) ?_
      simp only [List.take_succ_cons, List.take_zero, List.drop_succ_cons, List.drop_zero]
      repeat (go_big_quiet_step (fail))
      with_reducible refine wpQuiet_nil ?_
      with_reducible refine M2.mixL_eff (by decide) ?_
      go_wp2_with (fail)
      refine M2.MixQ.mk (chg_of (by repeat (first | with_reducible exact Chg.refl _ _ | (focus (refine ChS.chg ?_; (repeat (first | with_reducible exact ChS.refl _ _ | with_reducible refine ChS.drewl ?_ | with_reducible refine ChS.drewr ?_ | with_reducible refine ChS.over ?_ _ | with_reducible refine chS_chgs ?_ _ | ((with_reducible refine chS_set ?_ _ ?_ _); rotate_left; (first | assumption | (focus (simp; done)) | (focus (simp; assumption)))) | with_reducible refine ChS.alloc ?_ _ | ((with_reducible refine ChS.lit ?_ ?_ _ _); rotate_left; (first | assumption | (focus (simp; done)) | (focus (simp; assumption)))) | with_reducible refine ChS.alloc ?_ _)); done)) | with_reducible refine Chg.alloc ?_ _ | with_reducible refine Chg.drew ?_ | with_reducible refine Chg.on ?_ _ | ((with_reducible refine Chg.setCell ?_ ?_ _); rotate_left; (first | (focus (left; assumption)) | (focus (left; simp; done)) | (focus (right; simp; done)) | (focus (right; simp; omega)) | (focus (left; simp; omega)))) | ((with_reducible refine Chg.in_ ?_ _ ?_); rotate_left; (first | assumption | (focus (intro i hi; left; simp at hi; subst hi; assumption)) | exact fun i hi => Or.inl hi | (focus (intro i hi; left; simp [hi]; done)) | (focus (intro i hi; left; simp at hi ⊢; simp [hi]; done)) | (focus (intro i hi; simp at hi ⊢; simp [hi]; done)) | (focus (intro i hi; simp at hi ⊢; omega))))))) ?_
      with_reducible refine M2.mixL_eff (by decide) ?_
      go_wp2_with (fail)
      refine M2.MixQ.mk (chg_of (by repeat (first | with_reducible exact Chg.refl _ _ | (focus (refine ChS.chg ?_; (repeat (first | with_reducible exact ChS.refl _ _ | with_reducible refine ChS.drewl ?_ | with_reducible refine ChS.drewr ?_ | with_reducible refine ChS.over ?_ _ | with_reducible refine chS_chgs ?_ _ | ((with_reducible refine chS_set ?_ _ ?_ _); rotate_left; (first | assumption | (focus (simp; done)) | (focus (simp; assumption)))) | with_reducible refine ChS.alloc ?_ _ | ((with_reducible refine ChS.lit ?_ ?_ _ _); rotate_left; (first | assumption | (focus (simp; done)) | (focus (simp; assumption)))) | with_reducible refine ChS.alloc ?_ _)); done)) | with_reducible refine Chg.alloc ?_ _ | with_reducible refine Chg.drew ?_ | with_reducible refine Chg.on ?_ _ | ((with_reducible refine Chg.setCell ?_ ?_ _); rotate_left; (first | (focus (left; assumption)) | (focus (left; simp; done)) | (focus (right; simp; done)) | (focus (right; simp; omega)) | (focus (left; simp; omega)))) | ((with_reducible refine Chg.in_ ?_ _ ?_); rotate_left; (first | assumption | (focus (intro i hi; left; simp at hi; subst hi; assumption)) | exact fun i hi => Or.inl hi | (focus (intro i hi; left; simp [hi]; done)) | (focus (intro i hi; left; simp at hi ⊢; simp [hi]; done)) | (focus (intro i hi; simp at hi ⊢; simp [hi]; done)) | (focus (intro i hi; simp at hi ⊢; omega))))))) ?_
      with_reducible refine M2.mixL_quiet 1 (by kernel_rfl) ?_
      simp only [List.take_succ_cons, List.take_zero, List.drop_succ_cons, List.drop_zero]
      repeat (go_big_quiet_step (fail))
      with_reducible refine wpQuiet_nil ?_
      with_reducible refine M2.mixL_nil ?_
      with_reducible refine M2.mixL_nil ?_
      go_wp2_with fail
      (try simp only [Exit.inBlock, Exit.then])
      refine bodyPost_ret (v := ?rv29) ?rh29 rfl ?rp29
      case rh29 => (simp only [results, show Tryd.f26.results = #[.cell 2 29, .cell 3 42, .tmp 4] from rfl]; go_simp; rfl)
      have m1 : w.heap.size ≤ p1 := Nat.le_of_eq hp1'
      have m2 : w.heap.size ≤ p2 := by omega
      have k1 : p1 < p4 + 1 := by omega
      have k2 : p2 < p4 + 1 := by omega
      refine ⟨a3, c3, rfl, (by (try unfold Ov); repeat (first | with_reducible exact H0.out | with_reducible exact H0.out | with_reducible refine ex_undrew ?_ | with_reducible refine ex_into ?_ _ | with_reducible refine ex_alloc ?_ _ | with_reducible refine ex_drew ?_ | ((with_reducible refine ex_setCell ?_ ?_ _); rotate_left; (first | omega | (focus (simp; done)) | (focus (simp; omega)))) | ((with_reducible refine ex_chg ?_ _ ?_); rotate_left; (first | assumption | (exact Hid.out (by assumption)))) | exact ex_over)), ?_⟩
      refine Own.mono (base := p4 + 1) (Own.drew ?_) (by omega)
      exact Own.setCell (Own.setCell (Own.setCell (Own.setCell (Own.setCell (Own.setCell (Own.setCell (Own.setCell (Own.setCell HO3.out k1 _) k1 _) k2 _) k2 _) k2 _) k2 _) k2 _) k2 _) k2 _
end Go.Proofs.YthljlajdkdgieaaDoor
namespace Go.Proofs.YthljlajdkdgieaaDoor
set_option linter.unusedVariables false
set_option linter.unusedSimpArgs false
open Go.RowKit
attribute [local go_sem] over_drew

def kC1 : List Bool := (ofC [⟨10, 1⟩, ⟨20, 1⟩]).1
def kC2 : List Bool := kC1 ++ (laid ⟨2, 20, 10, ⟨true, 1, 0, 0⟩⟩ 30 1).1
theorem kc1 : ofC [⟨10, 1⟩, ⟨20, 1⟩] = (kC1, ⟨2, 20, 10, ⟨true, 1, 0, 0⟩⟩, 0) := by decide +kernel
theorem kc2 : kC1.length = 138 := by decide +kernel
theorem kc3 : kC2.length = 140 := by decide +kernel
/-- Bits whose number is told, the rest laid out. -/
def CpN (w : World) (L : List Bool) (N : Int) (ev : Value) (en : Ending) (w' : World) : Prop :=
  ∃ a c, en = .returned (.tuple #[bv a (pack L).length c N, ev, .int .u16 0]) ∧ (∃ x, w' = over w x) ∧ SlB w' a c (pack L)
theorem CpOwn.n {w w' : World} {L : List Bool} {e : En} {en : Ending} (h : CpOwn w L e en w') {N : Int} (hN : (L.length : Int) = N) {ev : Value} (ht : e.v = ev) : CpN w L N ev en w' := by
  subst hN ht; obtain ⟨a, c, h1, h2, h3⟩ := h; exact ⟨a, c, h1, h2, (Own.slice' bcs_len h3).2⟩
theorem CoPost.n {w w' : World} {L : List Bool} {e : En} {en : Ending} (h : CoPost w (L, e, 0) en w') {N : Int} (hN : (L.length : Int) = N) {ev : Value} (ht : e.v = ev) : CpN w L N ev en w' := by
  subst hN ht; obtain ⟨a, c, h1, h2, h3⟩ := h; exact ⟨a, c, h1, h2, (Own.slice' bcs_len h3).2⟩

set_option maxRecDepth 100000 in
set_option maxHeartbeats 2000000 in
theorem known06_any (w : World) (hT : TabW w) : Calls Tryd.prog 24 #[] w (Ret w (.bool true)) := by
  have HK1 : Hid (∀ W a c, TabW W → SlM W a c [⟨10, 1⟩, ⟨20, 1⟩] → Calls Tryd.prog 26 #[.slice a 2 c] W (CpN W kC1 138 (.agg #[.int .i64 2, .int .i64 20, .int .i64 10, .bool true, .int .u64 1, .int .u8 0, .int .u8 0]))) :=
    hid (fun W a c hW hs => (cof_any [⟨10, 1⟩, ⟨20, 1⟩] (by simp [Sm.wf, i64ok]) (by simp) a c W hW hs).mono fun _ _ h => by rw [kc1] at h; exact h.n (N := 138) (congrArg (Nat.cast (R := Int)) kc2) rfl)
  have HK2 : Hid (∀ W a c, TabW W → SlB W a c (pack kC1) → Calls Tryd.prog 28 #[.agg #[.slice a (pack kC1).length c, .int .i64 138], .agg #[.int .i64 2, .int .i64 20, .int .i64 10, .bool true, .int .u64 1, .int .u8 0, .int .u8 0], .agg #[.int .i64 30, .int .u64 1]] W (CpN W kC2 140 ((laid ⟨2, 20, 10, ⟨true, 1, 0, 0⟩⟩ 30 1).2.v))) :=
    hid (fun W a c hW hs => by
      have h0 := (cput_yes kC1 (by rw [kc2]; decide) a c ⟨2, 20, 10, ⟨true, 1, 0, 0⟩⟩ (by simp [En.wf, Vl.wf, i64ok]) (by decide) 30 (by simp [i64ok]) (by decide) 1 (by decide) W hW hs).mono fun _ _ h => h.n (N := 140) (congrArg (Nat.cast (R := Int)) kc3) rfl
      rw [kc2] at h0; exact h0)
  have HK3 : Hid (∀ W a c, SlB W a c (pack kC1) → Calls Tryd.prog 28 #[.agg #[.slice a (pack kC1).length c, .int .i64 138], .agg #[.int .i64 2, .int .i64 20, .int .i64 10, .bool true, .int .u64 1, .int .u8 0, .int .u8 0], .agg #[.int .i64 20, .int .u64 1]] W (Ret W (.tuple #[bv none 0 0 0, .agg #[.int .i64 0, .int .i64 0, .int .i64 0, .bool false, .int .u64 0, .int .u8 0, .int .u8 0], .int .u16 60]))) :=
    hid (fun W a c hs => by
      have h0 := cput_time kC1 (by rw [kc2]; decide) a c ⟨2, 20, 10, ⟨true, 1, 0, 0⟩⟩ (by simp [En.wf, Vl.wf, i64ok]) (by decide) 20 (by decide) 1 W hs
      rw [kc2] at h0; exact h0)
  generalize (laid ⟨2, 20, 10, ⟨true, 1, 0, 0⟩⟩ 30 1).2 = q at *
  generalize kC1 = L1 at *
  generalize kC2 = L2 at *
  go_enter Tryd.func24, Tryd.ntmps24
  go_wp2_with (first | (go_at_call 26; (with_reducible refine (HK1.out _ _ _ (by repeat (first | with_reducible exact hT | with_reducible refine TabW.over ?_ _ | with_reducible refine TabW.alloc ?_ _ | with_reducible refine TabW.drew ?_ | ((with_reducible refine TabW.setCell ?_ ?_ _); rotate_left; (first | (focus (simp; done)) | (focus (simp; omega)))) | ((with_reducible refine TabW.chg ?_ _ ?_); rotate_left; (first | assumption | (focus (simp; done)) | (focus (simp; omega)))) | exact hT)) (by (repeat with_reducible refine Sl.drew ?_); refine Sl.lit_as (xs := [⟨10, 1⟩, ⟨20, 1⟩]) Sm.cs_len ?_ ?_ ?_ ?_ <;> first | rfl | (simp; done) | (simp [maxLen]; done) | (simp [flat, Sm.cs]; done))).mono ?_); rintro _ _ ⟨a1, c1, rfl, ⟨e1, rfl⟩, s1⟩) | (go_at_call 28; (with_reducible refine (HK2.out _ _ _ (by repeat (first | with_reducible exact hT | with_reducible refine TabW.over ?_ _ | with_reducible refine TabW.alloc ?_ _ | with_reducible refine TabW.drew ?_ | ((with_reducible refine TabW.setCell ?_ ?_ _); rotate_left; (first | (focus (simp; done)) | (focus (simp; omega)))) | ((with_reducible refine TabW.chg ?_ _ ?_); rotate_left; (first | assumption | (focus (simp; done)) | (focus (simp; omega)))) | exact hT)) (by repeat (first | with_reducible exact s1 | with_reducible refine Sl.over ?_ _ | with_reducible refine Sl.alloc ?_ _ | with_reducible refine Sl.drew ?_ | exact s1))).mono ?_); rintro _ _ ⟨a2, c2, rfl, ⟨e2, rfl⟩, s2⟩) | (go_at_call 28; (with_reducible refine (HK3.out _ _ _ (by repeat (first | with_reducible exact s1 | with_reducible refine Sl.over ?_ _ | with_reducible refine Sl.alloc ?_ _ | with_reducible refine Sl.drew ?_ | exact s1))).mono ?_); rintro _ _ ⟨⟨e3, rfl⟩, rfl⟩))
  go_ret
  exact ⟨(by (try unfold Ov); repeat (first | with_reducible exact ex_over | with_reducible exact over_self _ | with_reducible refine ex_undrew ?_ | with_reducible refine ex_into ?_ _ | with_reducible refine ex_alloc ?_ _ | with_reducible refine ex_drew ?_ | ((with_reducible refine ex_setCell ?_ ?_ _); rotate_left; (first | omega | (focus (simp; done)) | (focus (simp; omega)))) | ((with_reducible refine ex_chg ?_ _ ?_); rotate_left; (first | assumption | (exact Hid.out (by assumption)))) | exact ex_over)), rfl⟩

theorem wrongC_cases {a b : Bool} (h : ¬ wrongC a b = 0) : wrongC a b = 11 ∨ wrongC a b = 61 := by
  cases a <;> cases b <;> simp_all [wrongC]
theorem wrongC_zero {a b : Bool} (h : wrongC a b = 0) : a = true ∧ b = true := by
  cases a <;> cases b <;> simp_all [wrongC]
set_option maxRecDepth 100000 in
set_option maxHeartbeats 4000000 in
theorem chunkPuts_any (bs : List Nat) (hbs : ∀ b ∈ bs, b < 256) (N : Int) (hN : -9223372036854775808 ≤ N ∧ N ≤ 9223372036854775807) (a : Option Addr) (cap : Nat) (e : En) (he : e.wf) (s : Sm) (hs : s.wf) (w : World) (hT : TabW w) (hb : SlB w a cap bs) :
    Calls Tryd.prog 7 #[bv a bs.length cap N, e.v, smV s.t s.v] w (Ret w (.bool true)) := by
  have HK := hid (fun W hW => known06_any W hW)
  have hmax := len_max hb
  obtain ⟨t, v⟩ := s
  obtain ⟨ht, hv⟩ := hs
  simp only at ht hv
  by_cases hlen : (600 : Int) < (bs.length : Int)
  · obtain ⟨n, last, delta, vl⟩ := e
    obtain ⟨⟨q1, q2⟩, ⟨q3, q4⟩, ⟨q5, q6⟩, q7, q8, q9⟩ := he
    obtain ⟨ht1, ht2⟩ := ht
    simp only at q1 q2 q3 q4 q5 q6 q7 q8 q9
    go_enter Tryd.func7, Tryd.ntmps7
    go_wp2_with (go_at_call 24; (with_reducible refine (HK.out _ (by repeat (first | with_reducible exact hT | with_reducible refine TabW.over ?_ _ | with_reducible refine TabW.alloc ?_ _ | with_reducible refine TabW.drew ?_ | ((with_reducible refine TabW.setCell ?_ ?_ _); rotate_left; (first | (focus (simp; done)) | (focus (simp; omega)))) | ((with_reducible refine TabW.chg ?_ _ ?_); rotate_left; (first | assumption | (focus (simp; done)) | (focus (simp; omega)))) | exact hT))).mono ?_); rintro _ _ ⟨⟨e1, rfl⟩, rfl⟩)
    go_ret
    exact ⟨(by (try unfold Ov); repeat (first | with_reducible exact ex_over | with_reducible exact over_self _ | with_reducible refine ex_undrew ?_ | with_reducible refine ex_into ?_ _ | with_reducible refine ex_alloc ?_ _ | with_reducible refine ex_drew ?_ | ((with_reducible refine ex_setCell ?_ ?_ _); rotate_left; (first | omega | (focus (simp; done)) | (focus (simp; omega)))) | ((with_reducible refine ex_chg ?_ _ ?_); rotate_left; (first | assumption | (exact Hid.out (by assumption)))) | exact ex_over)), rfl⟩
  have hl : bs.length ≤ 1000000 := by omega
  by_cases hn : wrongC (soundB bs N) (soundE e) = 0
  · obtain ⟨hg1, hg2⟩ := wrongC_zero hn
    obtain ⟨l, rfl, rfl⟩ := sound_list hbs hg1
    have hll : l.length ≤ 700000 := by rw [pack_length] at hlen; unfold nb at hlen; omega
    by_cases hc : comes e t
    · have HP := hid (fun W h1 h2 => cput_yes l hll a cap e he hg2 t ht hc v hv W h1 h2)
      have HR := hid (fun W h1 h2 => rcput_yes l hll a cap e he hg2 t ht hc v hv W h1 h2)
      generalize l ++ (laid e t v).1 = L at *
      generalize (laid e t v).2 = t' at *
      have HS := hid (fun b1 c1 b2 c2 W h1 h2 => rsame_any (pack L) (pack L) pack_lt pack_lt L.length L.length b1 c1 b2 c2 W h1 h2)
      rw [decide_eq_true rfl, decide_eq_true rfl] at HS
      clear hn hg1 hg2 hc
      obtain ⟨n, last, delta, vl⟩ := e
      obtain ⟨⟨q1, q2⟩, ⟨q3, q4⟩, ⟨q5, q6⟩, q7, q8, q9⟩ := he
      obtain ⟨ht1, ht2⟩ := ht
      simp only at q1 q2 q3 q4 q5 q6 q7 q8 q9
      go_enter Tryd.func7, Tryd.ntmps7
      go_wp2_with (first | (go_at_call 24; (with_reducible refine (HK.out _ (by repeat (first | with_reducible exact hT | with_reducible refine TabW.over ?_ _ | with_reducible refine TabW.alloc ?_ _ | with_reducible refine TabW.drew ?_ | ((with_reducible refine TabW.setCell ?_ ?_ _); rotate_left; (first | (focus (simp; done)) | (focus (simp; omega)))) | ((with_reducible refine TabW.chg ?_ _ ?_); rotate_left; (first | assumption | (focus (simp; done)) | (focus (simp; omega)))) | exact hT))).mono ?_); rintro _ _ ⟨⟨e1, rfl⟩, rfl⟩) | (go_at_call 28; (with_reducible refine (HP.out _ (by repeat (first | with_reducible exact hT | with_reducible refine TabW.over ?_ _ | with_reducible refine TabW.alloc ?_ _ | with_reducible refine TabW.drew ?_ | ((with_reducible refine TabW.setCell ?_ ?_ _); rotate_left; (first | (focus (simp; done)) | (focus (simp; omega)))) | ((with_reducible refine TabW.chg ?_ _ ?_); rotate_left; (first | assumption | (focus (simp; done)) | (focus (simp; omega)))) | exact hT)) (by repeat (first | with_reducible exact hb | with_reducible refine Sl.over ?_ _ | with_reducible refine Sl.alloc ?_ _ | with_reducible refine Sl.drew ?_ | exact hb))).mono ?_); rintro _ _ ⟨a2, c2, rfl, ⟨e2, rfl⟩, o2⟩; have s2 := (Own.slice' bcs_len o2).2; clear o2) | (go_at_call 29; (with_reducible refine (HR.out _ (by repeat (first | with_reducible exact hT | with_reducible refine TabW.over ?_ _ | with_reducible refine TabW.alloc ?_ _ | with_reducible refine TabW.drew ?_ | ((with_reducible refine TabW.setCell ?_ ?_ _); rotate_left; (first | (focus (simp; done)) | (focus (simp; omega)))) | ((with_reducible refine TabW.chg ?_ _ ?_); rotate_left; (first | assumption | (focus (simp; done)) | (focus (simp; omega)))) | exact hT)) (by repeat (first | with_reducible exact hb | with_reducible refine Sl.over ?_ _ | with_reducible refine Sl.alloc ?_ _ | with_reducible refine Sl.drew ?_ | exact hb))).mono ?_); rintro _ _ ⟨a3, c3, rfl, ⟨e3, rfl⟩, s3⟩) | (go_at_call 23; (with_reducible refine (HS.out _ _ _ _ _ (by repeat (first | with_reducible exact s2 | with_reducible refine Sl.over ?_ _ | with_reducible refine Sl.alloc ?_ _ | with_reducible refine Sl.drew ?_ | exact s2)) (by repeat (first | with_reducible exact s3 | with_reducible refine Sl.over ?_ _ | with_reducible refine Sl.alloc ?_ _ | with_reducible refine Sl.drew ?_ | exact s3))).mono ?_); rintro _ _ ⟨⟨e4, rfl⟩, rfl⟩))
      go_ret
      exact ⟨(by (try unfold Ov); repeat (first | with_reducible exact ex_over | with_reducible exact over_self _ | with_reducible refine ex_undrew ?_ | with_reducible refine ex_into ?_ _ | with_reducible refine ex_alloc ?_ _ | with_reducible refine ex_drew ?_ | ((with_reducible refine ex_setCell ?_ ?_ _); rotate_left; (first | omega | (focus (simp; done)) | (focus (simp; omega)))) | ((with_reducible refine ex_chg ?_ _ ?_); rotate_left; (first | assumption | (exact Hid.out (by assumption)))) | exact ex_over)), rfl⟩
    · have HP : Hid (∀ W, SlB W a cap (pack l) → Calls Tryd.prog 28 #[bv a (pack l).length cap l.length, e.v, smV t v] W (Ret W (.tuple #[bv none 0 0 0, .agg #[.int .i64 0, .int .i64 0, .int .i64 0, .bool false, .int .u64 0, .int .u8 0, .int .u8 0], .int .u16 60]))) := hid (fun W h1 => cput_time l hll a cap e he hg2 t hc v W h1)
      have HR : Hid (∀ W, SlB W a cap (pack l) → Calls Tryd.prog 29 #[bv a (pack l).length cap l.length, e.v, smV t v] W (Ret W (.tuple #[bv none 0 0 0, .agg #[.int .i64 0, .int .i64 0, .int .i64 0, .bool false, .int .u64 0, .int .u8 0, .int .u8 0], .int .i64 60]))) := hid (fun W h1 => rcput_time l hll a cap e he hg2 t hc v W h1)
      have HS : Hid (∀ W, Calls Tryd.prog 23 #[.agg #[.slice none 0 0, .int .i64 0], .agg #[.slice none 0 0, .int .i64 0]] W (Ret W (.bool true))) := hid (fun W => rsame_any [] [] (by simp) (by simp) 0 0 none 0 none 0 W (Sl.nil W) (Sl.nil W))
      clear hn hg1 hg2 hc
      obtain ⟨n, last, delta, vl⟩ := e
      obtain ⟨⟨q1, q2⟩, ⟨q3, q4⟩, ⟨q5, q6⟩, q7, q8, q9⟩ := he
      obtain ⟨ht1, ht2⟩ := ht
      simp only at q1 q2 q3 q4 q5 q6 q7 q8 q9
      go_enter Tryd.func7, Tryd.ntmps7
      go_wp2_with (first | (go_at_call 24; (with_reducible refine (HK.out _ (by repeat (first | with_reducible exact hT | with_reducible refine TabW.over ?_ _ | with_reducible refine TabW.alloc ?_ _ | with_reducible refine TabW.drew ?_ | ((with_reducible refine TabW.setCell ?_ ?_ _); rotate_left; (first | (focus (simp; done)) | (focus (simp; omega)))) | ((with_reducible refine TabW.chg ?_ _ ?_); rotate_left; (first | assumption | (focus (simp; done)) | (focus (simp; omega)))) | exact hT))).mono ?_); rintro _ _ ⟨⟨e1, rfl⟩, rfl⟩) | (go_at_call 28; (with_reducible refine (HP.out _ (by repeat (first | with_reducible exact hb | with_reducible refine Sl.over ?_ _ | with_reducible refine Sl.alloc ?_ _ | with_reducible refine Sl.drew ?_ | exact hb))).mono ?_); rintro _ _ ⟨⟨e2, rfl⟩, rfl⟩) | (go_at_call 29; (with_reducible refine (HR.out _ (by repeat (first | with_reducible exact hb | with_reducible refine Sl.over ?_ _ | with_reducible refine Sl.alloc ?_ _ | with_reducible refine Sl.drew ?_ | exact hb))).mono ?_); rintro _ _ ⟨⟨e3, rfl⟩, rfl⟩) | (go_at_call 23; (with_reducible refine (HS.out _).mono ?_); rintro _ _ ⟨⟨e4, rfl⟩, rfl⟩))
      go_ret
      exact ⟨(by (try unfold Ov); repeat (first | with_reducible exact ex_over | with_reducible exact over_self _ | with_reducible refine ex_undrew ?_ | with_reducible refine ex_into ?_ _ | with_reducible refine ex_alloc ?_ _ | with_reducible refine ex_drew ?_ | ((with_reducible refine ex_setCell ?_ ?_ _); rotate_left; (first | omega | (focus (simp; done)) | (focus (simp; omega)))) | ((with_reducible refine ex_chg ?_ _ ?_); rotate_left; (first | assumption | (exact Hid.out (by assumption)))) | exact ex_over)), rfl⟩
  · have HP := hid (fun W h1 => cput_no bs hbs hl N hN a cap e he t v W h1 hn)
    have HR := hid (fun W h1 => rcput_no bs hbs hl N hN a cap e he t v W h1 hn)
    have HS : Hid (∀ W, Calls Tryd.prog 23 #[.agg #[.slice none 0 0, .int .i64 0], .agg #[.slice none 0 0, .int .i64 0]] W (Ret W (.bool true))) := hid (fun W => rsame_any [] [] (by simp) (by simp) 0 0 none 0 none 0 W (Sl.nil W) (Sl.nil W))
    have hw := wrongC_cases hn
    obtain ⟨n, last, delta, vl⟩ := e
    obtain ⟨⟨q1, q2⟩, ⟨q3, q4⟩, ⟨q5, q6⟩, q7, q8, q9⟩ := he
    obtain ⟨ht1, ht2⟩ := ht
    simp only at q1 q2 q3 q4 q5 q6 q7 q8 q9
    rcases hw with hw | hw
    all_goals
      rw [hw] at HP HR
      clear hw hn
      have HP' : Hid (∀ W, SlB W a cap bs → Calls Tryd.prog 28 #[bv a bs.length cap N, En.v ⟨n, last, delta, vl⟩, smV t v] W (Ret W (.tuple #[.agg #[.slice none 0 0, .int .i64 0], .agg #[.int .i64 0, .int .i64 0, .int .i64 0, .bool false, .int .u64 0, .int .u8 0, .int .u8 0], .int .u16 _]))) := HP
      have HR' : Hid (∀ W, SlB W a cap bs → Calls Tryd.prog 29 #[bv a bs.length cap N, En.v ⟨n, last, delta, vl⟩, smV t v] W (Ret W (.tuple #[.agg #[.slice none 0 0, .int .i64 0], .agg #[.int .i64 0, .int .i64 0, .int .i64 0, .bool false, .int .u64 0, .int .u8 0, .int .u8 0], .int .i64 _]))) := HR
      clear HP HR
      go_enter Tryd.func7, Tryd.ntmps7
      go_wp2_with (first | (go_at_call 24; (with_reducible refine (HK.out _ (by repeat (first | with_reducible exact hT | with_reducible refine TabW.over ?_ _ | with_reducible refine TabW.alloc ?_ _ | with_reducible refine TabW.drew ?_ | ((with_reducible refine TabW.setCell ?_ ?_ _); rotate_left; (first | (focus (simp; done)) | (focus (simp; omega)))) | ((with_reducible refine TabW.chg ?_ _ ?_); rotate_left; (first | assumption | (focus (simp; done)) | (focus (simp; omega)))) | exact hT))).mono ?_); rintro _ _ ⟨⟨e1, rfl⟩, rfl⟩) | (go_at_call 28; (with_reducible refine (HP'.out _ (by repeat (first | with_reducible exact hb | with_reducible refine Sl.over ?_ _ | with_reducible refine Sl.alloc ?_ _ | with_reducible refine Sl.drew ?_ | exact hb))).mono ?_); rintro _ _ ⟨⟨e2, rfl⟩, rfl⟩) | (go_at_call 29; (with_reducible refine (HR'.out _ (by repeat (first | with_reducible exact hb | with_reducible refine Sl.over ?_ _ | with_reducible refine Sl.alloc ?_ _ | with_reducible refine Sl.drew ?_ | exact hb))).mono ?_); rintro _ _ ⟨⟨e3, rfl⟩, rfl⟩) | (go_at_call 23; (with_reducible refine (HS.out _).mono ?_); rintro _ _ ⟨⟨e4, rfl⟩, rfl⟩))
      go_ret
      exact ⟨(by (try unfold Ov); repeat (first | with_reducible exact ex_over | with_reducible exact over_self _ | with_reducible refine ex_undrew ?_ | with_reducible refine ex_into ?_ _ | with_reducible refine ex_alloc ?_ _ | with_reducible refine ex_drew ?_ | ((with_reducible refine ex_setCell ?_ ?_ _); rotate_left; (first | omega | (focus (simp; done)) | (focus (simp; omega)))) | ((with_reducible refine ex_chg ?_ _ ?_); rotate_left; (first | assumption | (exact Hid.out (by assumption)))) | exact ex_over)), rfl⟩
end Go.Proofs.YthljlajdkdgieaaDoor
