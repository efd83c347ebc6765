import Derived.Test.YtnihngljmmbenaaGreatDoorSD
import Derived.Test.YtnihngljmmbenaaGreatDoorSA
import Derived.Test.YtnihngljmmbenaaGreatDoorGA
import Derived.Test.YtnihngljmmbenaaGreatDoorSG
import Derived.Test.YtnihngljmmbenaaGreatDoorSH
import Derived.Test.YtnihngljmmbenaaGreatDoorKA
import Derived.Test.YtnihngljmmbenaaGreatDoorHE
namespace Go.Proofs.YtnihngljmmbenaaGreatDoor
set_option linter.unusedVariables false
set_option linter.unusedSimpArgs false
section
open Go.RowKit
attribute [local go_sem] over_drew chg_drew

def SdNewP (w : World) (ep : Nat) (most : Int) (tk : Nat) (en : Ending) (w' : World) : Prop :=
  ∃ p pw pt mt mc ms Fw, en = .returned (.pointer (some ⟨p, 0, none⟩)) ∧ (∃ e, w' = over w e) ∧ SdAt w.heap.size w' p pw pt mt mc ms Fw (sdNew ep most tk)
theorem right_iff (x : Cf) : x.right = true ↔ (1 ≤ x.s ∧ x.s ≤ 64) ∧ (1 ≤ x.b ∧ x.b ≤ 1073741824) ∧ (1 ≤ x.c ∧ x.c ≤ 24) ∧ (1 ≤ x.w ∧ x.w ≤ 1048576) ∧ (1 ≤ x.t ∧ x.t ≤ 1000) ∧ (0 ≤ x.d ∧ x.d ≤ 1048576) := by
  unfold Cf.right btw
  simp only [Bool.and_eq_true, decide_eq_true_eq]
  omega
theorem SdNewP.mk {w w' : World} {ep tk p pw pt mt mc ms : Nat} {most : Int} {v : Value} (hv : v = .pointer (some ⟨p, 0, none⟩)) (hO : ∃ e, w' = over w e) (hB : Blk w' p [.pointer (some ⟨pw, 0, none⟩), .pointer (some ⟨pt, 0, none⟩), .int .u32 (ep : Nat), .int .u64 0, .map (some mc), .map (some ms)] 98)
    (hW : WinAt w.heap.size w' pw most [] [pw]) (hm : most ≤ 1048576 ∧ 1 ≤ most) (hT : TmAt w' pt mt tk [] []) (hc : MapK w' mc e32 ([] : List (Nat × Value))) (hs : MapK w' ms e32 ([] : List (Nat × Value))) (hnd : p ≠ pt ∧ p ≠ mt ∧ p ≠ mc ∧ p ≠ ms ∧ pt ≠ mt ∧ pt ≠ mc ∧ pt ≠ ms ∧ mt ≠ mc ∧ mt ≠ ms ∧ mc ≠ ms) (hnw : p ≠ pw ∧ pt ≠ pw ∧ mt ≠ pw ∧ mc ≠ pw ∧ ms ≠ pw) (hlo : w.heap.size ≤ p ∧ w.heap.size ≤ pt ∧ w.heap.size ≤ mt ∧ w.heap.size ≤ mc ∧ w.heap.size ≤ ms) : SdNewP w ep most tk (.returned v) w' := by
  subst hv
  refine ⟨p, pw, pt, mt, mc, ms, [pw], rfl, hO, ⟨hB, hW, ⟨by simp [okPs, sdNew], by simp only [sdNew, sumN]; omega, hm.1⟩, ⟨[], hT⟩, ⟨[], hc, PlM.nil⟩, ⟨[], hs, PlM.nil⟩, by simp; omega, fun k hk => by simp at hk ⊢; omega, fun k hk => by simp at hk; omega⟩⟩
theorem size_drewT (w : World) : w.drew.heap.size = w.heap.size := rfl
theorem tmAt_alloc {w : World} {p mb tk : Nat} {m : List (Nat × Value)} {L : List Tm} (h : TmAt w p mb tk m L) (o : Obj) : TmAt (w.alloc o) p mb tk m L := h.chg (F := []) ((Chg.refl [] w).alloc o) (by simp) (by simp)
theorem tmAt_over {w : World} {p mb tk : Nat} {m : List (Nat × Value)} {L : List Tm} (h : TmAt w p mb tk m L) (e : World) : TmAt (over w e) p mb tk m L := h.chg (F := []) ((Chg.refl [] w).on e) (by simp) (by simp)
theorem tmAt_drew {w : World} {p mb tk : Nat} {m : List (Nat × Value)} {L : List Tm} (h : TmAt w p mb tk m L) : TmAt w.drew p mb tk m L := h.chg (F := []) (Chg.refl [] w).drew (by simp) (by simp)
theorem mapK_alloc {w : World} {b : Nat} {m : List (Nat × Value)} (h : MapK w b e32 m) (o : Obj) : MapK (w.alloc o) b e32 m := MapK.chg (F := []) h ((Chg.refl [] w).alloc o) (by simp)
theorem mapK_over {w : World} {b : Nat} {m : List (Nat × Value)} (h : MapK w b e32 m) (e : World) : MapK (over w e) b e32 m := MapK.chg (F := []) h ((Chg.refl [] w).on e) (by simp)
theorem mapK_drew {w : World} {b : Nat} {m : List (Nat × Value)} (h : MapK w b e32 m) : MapK w.drew b e32 m := MapK.chg (F := []) h (Chg.refl [] w).drew (by simp)
set_option maxRecDepth 100000 in
set_option maxHeartbeats 8000000 in
theorem sNew_yes (x : Cf) (hx : x.right = true) (tn : Nat) (htn : x.t = (tn : Nat)) (ep : Nat) (w : World) : Calls Tryz.prog 9 #[x.v, .int .u32 (ep : Nat)] w (SdNewP w ep x.w tn) := by
  have hmk : ∀ W : World, (Instr.makeMap 96 none).run Tryz.prog W = .ok (.map (some W.heap.size)) (W.alloc (.map #[] 0)) := fun W => rfl
  have hr := (right_iff x).1 hx
  have hR := fun W => right_any x W
  rw [hx] at hR
  obtain ⟨s, b, c, n, t, d⟩ := x
  simp only at htn hr
  subst htn
  simp only [Cf.v] at *
  have HR := hid hR
  have hm2 : n ≤ 1048576 ∧ 1 ≤ n := ⟨hr.2.2.2.1.2, hr.2.2.2.1.1⟩
  have ht2 : 1 ≤ tn ∧ tn ≤ 1000 := by have := hr.2.2.2.2.1; omega
  clear hr hR hx
  go_enter Tryz.func9, Tryz.ntmps9
  go_wp2_with (go_at_call 11; (with_reducible refine (HR.out _).mono ?_); rintro _ _ ⟨⟨e1, rfl⟩, rfl⟩)
  refine gen_w ?_
  intro W1 hW1
  have O1 : Hid (∃ e, W1 = over w e) := hid (by rw [hW1]; exact ovA)
  have B1 : Hid (Blk W1 w.heap.size [.int .i64 s, .int .i64 b, .int .i64 c, .int .i64 n, .int .i64 (tn : Nat), .int .i64 d] 23) := hid (by rw [hW1]; exact (by exact blA))
  have hw1 : w.heap.size < W1.heap.size := B1.out.lt
  clear hW1
  have c3 := B1.out.cell 3 rfl
  have c4 := B1.out.cell 4 rfl
  have HWn : Hid (∀ W, (∃ e, W = over W1 e) → Calls Tryz.prog 37 #[.int .i64 n] W (fun en w' => en = .returned (.pointer (some ⟨W.heap.size, 0, none⟩)) ∧ w' = W.alloc (.cells #[.int .i64 n, .int .i64 0, .slice none 0 0] 167) ∧ WinAt w.heap.size w' W.heap.size n [] [W.heap.size])) := hid (fun W hW => (winNew_yes n hm2.2 hm2.1 0 W (Nat.zero_le _)).mono (fun en w' hh => ⟨hh.1, hh.2, by rw [hh.2]; exact WinAt.new (by have := sz_over hW; omega)⟩))
  have HTn := hid (fun W => tNew_yes tn ht2.1 ht2.2 W)
  refine M2.wp_region_tree (fun w' => ∃ e : World, w' = over _ e) [2, 5, 7, 8, 10] (.q 0 (.q 1 (.q 3 (.q 4 (.q 6 (.e 2 (.e 5 (.e 7 (.e 8 (.q 9 (.e 10 (.q 11 .done) .no)) .no) (.e 8 (.e 7 (.q 9 (.e 10 (.q 11 .done) .no)) .no) .no)) (.e 7 (.e 5 (.e 8 (.q 9 (.e 10 (.q 11 .done) .no)) .no) (.e 8 (.e 5 (.q 9 (.e 10 (.q 11 .done) .no)) .no) .no)) (.e 8 (.e 5 (.e 7 (.q 9 (.e 10 (.q 11 .done) .no)) .no) (.e 7 (.e 5 (.q 9 (.e 10 (.q 11 .done) .no)) .no) .no)) .no))) (.e 7 (.e 2 (.e 5 (.e 8 (.q 9 (.e 10 (.q 11 .done) .no)) .no) (.e 8 (.e 5 (.q 9 (.e 10 (.q 11 .done) .no)) .no) .no)) (.e 8 (.e 2 (.e 5 (.q 9 (.e 10 (.q 11 .done) .no)) .no) .no) .no)) (.e 8 (.e 2 (.e 5 (.e 7 (.q 9 (.e 10 (.q 11 .done) .no)) .no) (.e 7 (.e 5 (.q 9 (.e 10 (.q 11 .done) .no)) .no) .no)) (.e 7 (.e 2 (.e 5 (.q 9 (.e 10 (.q 11 .done) .no)) .no) .no) .no)) .no)))))))) (by kernel_rfl) (by kernel_rfl) (ex_drew (over_self _)) ?_
  repeat (refine M2.tree_q rfl rfl ?_; go_big_quiet_step (fail); with_reducible refine wpQuiet_nil ?_)
  refine M2.tree_e (k := 2) rfl ?_ ?_
  · go_wp2_with ((go_at_call 37; (with_reducible refine (HWn.out _ ovA).mono ?_); rintro _ _ ⟨rfl, rfl, hwa⟩; (try simp only [size_drewT, World.size_alloc, size_over] at hwa); have HWa := hid hwa; clear hwa))
    refine M2.TreeQ.mk ovA ?_
    refine M2.tree_e (k := 5) rfl ?_ ?_
    · go_wp2_with ((go_at_call 38; (with_reducible refine (HTn.out _).mono ?_); rintro _ _ ⟨rfl, ⟨e5, rfl⟩, ht5⟩; (try simp only [over_drew] at ht5); (try simp only [size_drewT, World.size_alloc, size_over] at ht5); have HT5 := hid ht5; have he5 : 2 ≤ e5.heap.size := (by have := ht5.blk.lt; simp at this; omega); clear ht5))
      refine M2.TreeQ.mk ovA ?_
      refine M2.tree_e (k := 7) rfl ?_ ?_
      · go_wp2_with (fail)
        refine M2.TreeQ.mk ovA ?_
        refine M2.tree_e1 (k := 8) rfl ?_
        go_wp2_with (fail)
        refine M2.TreeQ.mk ovA ?_
        repeat (refine M2.tree_q rfl rfl ?_; go_big_quiet_step (fail); with_reducible refine wpQuiet_nil ?_)
        refine M2.tree_e1 (k := 10) rfl ?_
        go_wp2_with (fail)
        refine M2.TreeQ.mk ovA ?_
        repeat (refine M2.tree_q rfl rfl ?_; go_big_quiet_step (fail); with_reducible refine wpQuiet_nil ?_)
        refine M2.tree_done ?_
        go_wp2
        go_ret
        exact SdNewP.mk (p := (W1.heap.size + 1 + e5.heap.size + 1 + 1)) (pw := (W1.heap.size)) (pt := (W1.heap.size + 1) + 1) (mt := (W1.heap.size + 1)) (mc := (W1.heap.size + 1 + e5.heap.size)) (ms := (W1.heap.size + 1 + e5.heap.size + 1)) rfl (ovB O1.out) (by exact blA) (WinAt.chg (G := []) HWa.out (by exact chA) (by simp)) hm2 (by repeat (first | with_reducible exact HT5.out | with_reducible refine tmAt_alloc ?_ _ | with_reducible refine tmAt_over ?_ _ | with_reducible refine tmAt_drew ?_)) (by repeat (first | (refine MapK.new' e32 ?_; (first | rfl | (focus (simp; done)) | (focus (simp; omega)))) | with_reducible refine mapK_alloc ?_ _ | with_reducible refine mapK_over ?_ _ | with_reducible refine mapK_drew ?_)) (by repeat (first | (refine MapK.new' e32 ?_; (first | rfl | (focus (simp; done)) | (focus (simp; omega)))) | with_reducible refine mapK_alloc ?_ _ | with_reducible refine mapK_over ?_ _ | with_reducible refine mapK_drew ?_)) (by omega) (by omega) (by omega)
      refine M2.tree_e (k := 8) rfl ?_ ?_
      · go_wp2_with (fail)
        refine M2.TreeQ.mk ovA ?_
        refine M2.tree_e1 (k := 7) rfl ?_
        go_wp2_with (fail)
        refine M2.TreeQ.mk ovA ?_
        repeat (refine M2.tree_q rfl rfl ?_; go_big_quiet_step (fail); with_reducible refine wpQuiet_nil ?_)
        refine M2.tree_e1 (k := 10) rfl ?_
        go_wp2_with (fail)
        refine M2.TreeQ.mk ovA ?_
        repeat (refine M2.tree_q rfl rfl ?_; go_big_quiet_step (fail); with_reducible refine wpQuiet_nil ?_)
        refine M2.tree_done ?_
        go_wp2
        go_ret
        exact SdNewP.mk (p := (W1.heap.size + 1 + e5.heap.size + 1 + 1)) (pw := (W1.heap.size)) (pt := (W1.heap.size + 1) + 1) (mt := (W1.heap.size + 1)) (mc := (W1.heap.size + 1 + e5.heap.size + 1)) (ms := (W1.heap.size + 1 + e5.heap.size)) rfl (ovB O1.out) (by exact blA) (WinAt.chg (G := []) HWa.out (by exact chA) (by simp)) hm2 (by repeat (first | with_reducible exact HT5.out | with_reducible refine tmAt_alloc ?_ _ | with_reducible refine tmAt_over ?_ _ | with_reducible refine tmAt_drew ?_)) (by repeat (first | (refine MapK.new' e32 ?_; (first | rfl | (focus (simp; done)) | (focus (simp; omega)))) | with_reducible refine mapK_alloc ?_ _ | with_reducible refine mapK_over ?_ _ | with_reducible refine mapK_drew ?_)) (by repeat (first | (refine MapK.new' e32 ?_; (first | rfl | (focus (simp; done)) | (focus (simp; omega)))) | with_reducible refine mapK_alloc ?_ _ | with_reducible refine mapK_over ?_ _ | with_reducible refine mapK_drew ?_)) (by omega) (by omega) (by omega)
      exact M2.tree_no
    refine M2.tree_e (k := 7) rfl ?_ ?_
    · go_wp2_with (fail)
      refine M2.TreeQ.mk ovA ?_
      refine M2.tree_e (k := 5) rfl ?_ ?_
      · go_wp2_with ((go_at_call 38; (with_reducible refine (HTn.out _).mono ?_); rintro _ _ ⟨rfl, ⟨e5, rfl⟩, ht5⟩; (try simp only [over_drew] at ht5); (try simp only [size_drewT, World.size_alloc, size_over] at ht5); have HT5 := hid ht5; have he5 : 2 ≤ e5.heap.size := (by have := ht5.blk.lt; simp at this; omega); clear ht5))
        refine M2.TreeQ.mk ovA ?_
        refine M2.tree_e1 (k := 8) rfl ?_
        go_wp2_with (fail)
        refine M2.TreeQ.mk ovA ?_
        repeat (refine M2.tree_q rfl rfl ?_; go_big_quiet_step (fail); with_reducible refine wpQuiet_nil ?_)
        refine M2.tree_e1 (k := 10) rfl ?_
        go_wp2_with (fail)
        refine M2.TreeQ.mk ovA ?_
        repeat (refine M2.tree_q rfl rfl ?_; go_big_quiet_step (fail); with_reducible refine wpQuiet_nil ?_)
        refine M2.tree_done ?_
        go_wp2
        go_ret
        exact SdNewP.mk (p := (W1.heap.size + 1 + 1 + e5.heap.size + 1)) (pw := (W1.heap.size)) (pt := (W1.heap.size + 1 + 1) + 1) (mt := (W1.heap.size + 1 + 1)) (mc := (W1.heap.size + 1)) (ms := (W1.heap.size + 1 + 1 + e5.heap.size)) rfl (ovB O1.out) (by exact blA) (WinAt.chg (G := []) HWa.out (by exact chA) (by simp)) hm2 (by repeat (first | with_reducible exact HT5.out | with_reducible refine tmAt_alloc ?_ _ | with_reducible refine tmAt_over ?_ _ | with_reducible refine tmAt_drew ?_)) (by repeat (first | (refine MapK.new' e32 ?_; (first | rfl | (focus (simp; done)) | (focus (simp; omega)))) | with_reducible refine mapK_alloc ?_ _ | with_reducible refine mapK_over ?_ _ | with_reducible refine mapK_drew ?_)) (by repeat (first | (refine MapK.new' e32 ?_; (first | rfl | (focus (simp; done)) | (focus (simp; omega)))) | with_reducible refine mapK_alloc ?_ _ | with_reducible refine mapK_over ?_ _ | with_reducible refine mapK_drew ?_)) (by omega) (by omega) (by omega)
      refine M2.tree_e (k := 8) rfl ?_ ?_
      · go_wp2_with (fail)
        refine M2.TreeQ.mk ovA ?_
        refine M2.tree_e1 (k := 5) rfl ?_
        go_wp2_with ((go_at_call 38; (with_reducible refine (HTn.out _).mono ?_); rintro _ _ ⟨rfl, ⟨e5, rfl⟩, ht5⟩; (try simp only [over_drew] at ht5); (try simp only [size_drewT, World.size_alloc, size_over] at ht5); have HT5 := hid ht5; have he5 : 2 ≤ e5.heap.size := (by have := ht5.blk.lt; simp at this; omega); clear ht5))
        refine M2.TreeQ.mk ovA ?_
        repeat (refine M2.tree_q rfl rfl ?_; go_big_quiet_step (fail); with_reducible refine wpQuiet_nil ?_)
        refine M2.tree_e1 (k := 10) rfl ?_
        go_wp2_with (fail)
        refine M2.TreeQ.mk ovA ?_
        repeat (refine M2.tree_q rfl rfl ?_; go_big_quiet_step (fail); with_reducible refine wpQuiet_nil ?_)
        refine M2.tree_done ?_
        go_wp2
        go_ret
        exact SdNewP.mk (p := (W1.heap.size + 1 + 1 + 1 + e5.heap.size)) (pw := (W1.heap.size)) (pt := (W1.heap.size + 1 + 1 + 1) + 1) (mt := (W1.heap.size + 1 + 1 + 1)) (mc := (W1.heap.size + 1)) (ms := (W1.heap.size + 1 + 1)) rfl (ovB O1.out) (by exact blA) (WinAt.chg (G := []) HWa.out (by exact chA) (by simp)) hm2 (by repeat (first | with_reducible exact HT5.out | with_reducible refine tmAt_alloc ?_ _ | with_reducible refine tmAt_over ?_ _ | with_reducible refine tmAt_drew ?_)) (by repeat (first | (refine MapK.new' e32 ?_; (first | rfl | (focus (simp; done)) | (focus (simp; omega)))) | with_reducible refine mapK_alloc ?_ _ | with_reducible refine mapK_over ?_ _ | with_reducible refine mapK_drew ?_)) (by repeat (first | (refine MapK.new' e32 ?_; (first | rfl | (focus (simp; done)) | (focus (simp; omega)))) | with_reducible refine mapK_alloc ?_ _ | with_reducible refine mapK_over ?_ _ | with_reducible refine mapK_drew ?_)) (by omega) (by omega) (by omega)
      exact M2.tree_no
    refine M2.tree_e (k := 8) rfl ?_ ?_
    · go_wp2_with (fail)
      refine M2.TreeQ.mk ovA ?_
      refine M2.tree_e (k := 5) rfl ?_ ?_
      · go_wp2_with ((go_at_call 38; (with_reducible refine (HTn.out _).mono ?_); rintro _ _ ⟨rfl, ⟨e5, rfl⟩, ht5⟩; (try simp only [over_drew] at ht5); (try simp only [size_drewT, World.size_alloc, size_over] at ht5); have HT5 := hid ht5; have he5 : 2 ≤ e5.heap.size := (by have := ht5.blk.lt; simp at this; omega); clear ht5))
        refine M2.TreeQ.mk ovA ?_
        refine M2.tree_e1 (k := 7) rfl ?_
        go_wp2_with (fail)
        refine M2.TreeQ.mk ovA ?_
        repeat (refine M2.tree_q rfl rfl ?_; go_big_quiet_step (fail); with_reducible refine wpQuiet_nil ?_)
        refine M2.tree_e1 (k := 10) rfl ?_
        go_wp2_with (fail)
        refine M2.TreeQ.mk ovA ?_
        repeat (refine M2.tree_q rfl rfl ?_; go_big_quiet_step (fail); with_reducible refine wpQuiet_nil ?_)
        refine M2.tree_done ?_
        go_wp2
        go_ret
        exact SdNewP.mk (p := (W1.heap.size + 1 + 1 + e5.heap.size + 1)) (pw := (W1.heap.size)) (pt := (W1.heap.size + 1 + 1) + 1) (mt := (W1.heap.size + 1 + 1)) (mc := (W1.heap.size + 1 + 1 + e5.heap.size)) (ms := (W1.heap.size + 1)) rfl (ovB O1.out) (by exact blA) (WinAt.chg (G := []) HWa.out (by exact chA) (by simp)) hm2 (by repeat (first | with_reducible exact HT5.out | with_reducible refine tmAt_alloc ?_ _ | with_reducible refine tmAt_over ?_ _ | with_reducible refine tmAt_drew ?_)) (by repeat (first | (refine MapK.new' e32 ?_; (first | rfl | (focus (simp; done)) | (focus (simp; omega)))) | with_reducible refine mapK_alloc ?_ _ | with_reducible refine mapK_over ?_ _ | with_reducible refine mapK_drew ?_)) (by repeat (first | (refine MapK.new' e32 ?_; (first | rfl | (focus (simp; done)) | (focus (simp; omega)))) | with_reducible refine mapK_alloc ?_ _ | with_reducible refine mapK_over ?_ _ | with_reducible refine mapK_drew ?_)) (by omega) (by omega) (by omega)
      refine M2.tree_e (k := 7) rfl ?_ ?_
      · go_wp2_with (fail)
        refine M2.TreeQ.mk ovA ?_
        refine M2.tree_e1 (k := 5) rfl ?_
        go_wp2_with ((go_at_call 38; (with_reducible refine (HTn.out _).mono ?_); rintro _ _ ⟨rfl, ⟨e5, rfl⟩, ht5⟩; (try simp only [over_drew] at ht5); (try simp only [size_drewT, World.size_alloc, size_over] at ht5); have HT5 := hid ht5; have he5 : 2 ≤ e5.heap.size := (by have := ht5.blk.lt; simp at this; omega); clear ht5))
        refine M2.TreeQ.mk ovA ?_
        repeat (refine M2.tree_q rfl rfl ?_; go_big_quiet_step (fail); with_reducible refine wpQuiet_nil ?_)
        refine M2.tree_e1 (k := 10) rfl ?_
        go_wp2_with (fail)
        refine M2.TreeQ.mk ovA ?_
        repeat (refine M2.tree_q rfl rfl ?_; go_big_quiet_step (fail); with_reducible refine wpQuiet_nil ?_)
        refine M2.tree_done ?_
        go_wp2
        go_ret
        exact SdNewP.mk (p := (W1.heap.size + 1 + 1 + 1 + e5.heap.size)) (pw := (W1.heap.size)) (pt := (W1.heap.size + 1 + 1 + 1) + 1) (mt := (W1.heap.size + 1 + 1 + 1)) (mc := (W1.heap.size + 1 + 1)) (ms := (W1.heap.size + 1)) rfl (ovB O1.out) (by exact blA) (WinAt.chg (G := []) HWa.out (by exact chA) (by simp)) hm2 (by repeat (first | with_reducible exact HT5.out | with_reducible refine tmAt_alloc ?_ _ | with_reducible refine tmAt_over ?_ _ | with_reducible refine tmAt_drew ?_)) (by repeat (first | (refine MapK.new' e32 ?_; (first | rfl | (focus (simp; done)) | (focus (simp; omega)))) | with_reducible refine mapK_alloc ?_ _ | with_reducible refine mapK_over ?_ _ | with_reducible refine mapK_drew ?_)) (by repeat (first | (refine MapK.new' e32 ?_; (first | rfl | (focus (simp; done)) | (focus (simp; omega)))) | with_reducible refine mapK_alloc ?_ _ | with_reducible refine mapK_over ?_ _ | with_reducible refine mapK_drew ?_)) (by omega) (by omega) (by omega)
      exact M2.tree_no
    exact M2.tree_no
  refine M2.tree_e (k := 7) rfl ?_ ?_
  · go_wp2_with (fail)
    refine M2.TreeQ.mk ovA ?_
    refine M2.tree_e (k := 2) rfl ?_ ?_
    · go_wp2_with ((go_at_call 37; (with_reducible refine (HWn.out _ ovA).mono ?_); rintro _ _ ⟨rfl, rfl, hwa⟩; (try simp only [size_drewT, World.size_alloc, size_over] at hwa); have HWa := hid hwa; clear hwa))
      refine M2.TreeQ.mk ovA ?_
      refine M2.tree_e (k := 5) rfl ?_ ?_
      · go_wp2_with ((go_at_call 38; (with_reducible refine (HTn.out _).mono ?_); rintro _ _ ⟨rfl, ⟨e5, rfl⟩, ht5⟩; (try simp only [over_drew] at ht5); (try simp only [size_drewT, World.size_alloc, size_over] at ht5); have HT5 := hid ht5; have he5 : 2 ≤ e5.heap.size := (by have := ht5.blk.lt; simp at this; omega); clear ht5))
        refine M2.TreeQ.mk ovA ?_
        refine M2.tree_e1 (k := 8) rfl ?_
        go_wp2_with (fail)
        refine M2.TreeQ.mk ovA ?_
        repeat (refine M2.tree_q rfl rfl ?_; go_big_quiet_step (fail); with_reducible refine wpQuiet_nil ?_)
        refine M2.tree_e1 (k := 10) rfl ?_
        go_wp2_with (fail)
        refine M2.TreeQ.mk ovA ?_
        repeat (refine M2.tree_q rfl rfl ?_; go_big_quiet_step (fail); with_reducible refine wpQuiet_nil ?_)
        refine M2.tree_done ?_
        go_wp2
        go_ret
        exact SdNewP.mk (p := (W1.heap.size + 1 + 1 + e5.heap.size + 1)) (pw := (W1.heap.size + 1)) (pt := (W1.heap.size + 1 + 1) + 1) (mt := (W1.heap.size + 1 + 1)) (mc := (W1.heap.size)) (ms := (W1.heap.size + 1 + 1 + e5.heap.size)) rfl (ovB O1.out) (by exact blA) (WinAt.chg (G := []) HWa.out (by exact chA) (by simp)) hm2 (by repeat (first | with_reducible exact HT5.out | with_reducible refine tmAt_alloc ?_ _ | with_reducible refine tmAt_over ?_ _ | with_reducible refine tmAt_drew ?_)) (by repeat (first | (refine MapK.new' e32 ?_; (first | rfl | (focus (simp; done)) | (focus (simp; omega)))) | with_reducible refine mapK_alloc ?_ _ | with_reducible refine mapK_over ?_ _ | with_reducible refine mapK_drew ?_)) (by repeat (first | (refine MapK.new' e32 ?_; (first | rfl | (focus (simp; done)) | (focus (simp; omega)))) | with_reducible refine mapK_alloc ?_ _ | with_reducible refine mapK_over ?_ _ | with_reducible refine mapK_drew ?_)) (by omega) (by omega) (by omega)
      refine M2.tree_e (k := 8) rfl ?_ ?_
      · go_wp2_with (fail)
        refine M2.TreeQ.mk ovA ?_
        refine M2.tree_e1 (k := 5) rfl ?_
        go_wp2_with ((go_at_call 38; (with_reducible refine (HTn.out _).mono ?_); rintro _ _ ⟨rfl, ⟨e5, rfl⟩, ht5⟩; (try simp only [over_drew] at ht5); (try simp only [size_drewT, World.size_alloc, size_over] at ht5); have HT5 := hid ht5; have he5 : 2 ≤ e5.heap.size := (by have := ht5.blk.lt; simp at this; omega); clear ht5))
        refine M2.TreeQ.mk ovA ?_
        repeat (refine M2.tree_q rfl rfl ?_; go_big_quiet_step (fail); with_reducible refine wpQuiet_nil ?_)
        refine M2.tree_e1 (k := 10) rfl ?_
        go_wp2_with (fail)
        refine M2.TreeQ.mk ovA ?_
        repeat (refine M2.tree_q rfl rfl ?_; go_big_quiet_step (fail); with_reducible refine wpQuiet_nil ?_)
        refine M2.tree_done ?_
        go_wp2
        go_ret
        exact SdNewP.mk (p := (W1.heap.size + 1 + 1 + 1 + e5.heap.size)) (pw := (W1.heap.size + 1)) (pt := (W1.heap.size + 1 + 1 + 1) + 1) (mt := (W1.heap.size + 1 + 1 + 1)) (mc := (W1.heap.size)) (ms := (W1.heap.size + 1 + 1)) rfl (ovB O1.out) (by exact blA) (WinAt.chg (G := []) HWa.out (by exact chA) (by simp)) hm2 (by repeat (first | with_reducible exact HT5.out | with_reducible refine tmAt_alloc ?_ _ | with_reducible refine tmAt_over ?_ _ | with_reducible refine tmAt_drew ?_)) (by repeat (first | (refine MapK.new' e32 ?_; (first | rfl | (focus (simp; done)) | (focus (simp; omega)))) | with_reducible refine mapK_alloc ?_ _ | with_reducible refine mapK_over ?_ _ | with_reducible refine mapK_drew ?_)) (by repeat (first | (refine MapK.new' e32 ?_; (first | rfl | (focus (simp; done)) | (focus (simp; omega)))) | with_reducible refine mapK_alloc ?_ _ | with_reducible refine mapK_over ?_ _ | with_reducible refine mapK_drew ?_)) (by omega) (by omega) (by omega)
      exact M2.tree_no
    refine M2.tree_e (k := 8) rfl ?_ ?_
    · go_wp2_with (fail)
      refine M2.TreeQ.mk ovA ?_
      refine M2.tree_e1 (k := 2) rfl ?_
      go_wp2_with ((go_at_call 37; (with_reducible refine (HWn.out _ ovA).mono ?_); rintro _ _ ⟨rfl, rfl, hwa⟩; (try simp only [size_drewT, World.size_alloc, size_over] at hwa); have HWa := hid hwa; clear hwa))
      refine M2.TreeQ.mk ovA ?_
      refine M2.tree_e1 (k := 5) rfl ?_
      go_wp2_with ((go_at_call 38; (with_reducible refine (HTn.out _).mono ?_); rintro _ _ ⟨rfl, ⟨e5, rfl⟩, ht5⟩; (try simp only [over_drew] at ht5); (try simp only [size_drewT, World.size_alloc, size_over] at ht5); have HT5 := hid ht5; have he5 : 2 ≤ e5.heap.size := (by have := ht5.blk.lt; simp at this; omega); clear ht5))
      refine M2.TreeQ.mk ovA ?_
      repeat (refine M2.tree_q rfl rfl ?_; go_big_quiet_step (fail); with_reducible refine wpQuiet_nil ?_)
      refine M2.tree_e1 (k := 10) rfl ?_
      go_wp2_with (fail)
      refine M2.TreeQ.mk ovA ?_
      repeat (refine M2.tree_q rfl rfl ?_; go_big_quiet_step (fail); with_reducible refine wpQuiet_nil ?_)
      refine M2.tree_done ?_
      go_wp2
      go_ret
      exact SdNewP.mk (p := (W1.heap.size + 1 + 1 + 1 + e5.heap.size)) (pw := (W1.heap.size + 1 + 1)) (pt := (W1.heap.size + 1 + 1 + 1) + 1) (mt := (W1.heap.size + 1 + 1 + 1)) (mc := (W1.heap.size)) (ms := (W1.heap.size + 1)) rfl (ovB O1.out) (by exact blA) (WinAt.chg (G := []) HWa.out (by exact chA) (by simp)) hm2 (by repeat (first | with_reducible exact HT5.out | with_reducible refine tmAt_alloc ?_ _ | with_reducible refine tmAt_over ?_ _ | with_reducible refine tmAt_drew ?_)) (by repeat (first | (refine MapK.new' e32 ?_; (first | rfl | (focus (simp; done)) | (focus (simp; omega)))) | with_reducible refine mapK_alloc ?_ _ | with_reducible refine mapK_over ?_ _ | with_reducible refine mapK_drew ?_)) (by repeat (first | (refine MapK.new' e32 ?_; (first | rfl | (focus (simp; done)) | (focus (simp; omega)))) | with_reducible refine mapK_alloc ?_ _ | with_reducible refine mapK_over ?_ _ | with_reducible refine mapK_drew ?_)) (by omega) (by omega) (by omega)
    exact M2.tree_no
  refine M2.tree_e (k := 8) rfl ?_ ?_
  · go_wp2_with (fail)
    refine M2.TreeQ.mk ovA ?_
    refine M2.tree_e (k := 2) rfl ?_ ?_
    · go_wp2_with ((go_at_call 37; (with_reducible refine (HWn.out _ ovA).mono ?_); rintro _ _ ⟨rfl, rfl, hwa⟩; (try simp only [size_drewT, World.size_alloc, size_over] at hwa); have HWa := hid hwa; clear hwa))
      refine M2.TreeQ.mk ovA ?_
      refine M2.tree_e (k := 5) rfl ?_ ?_
      · go_wp2_with ((go_at_call 38; (with_reducible refine (HTn.out _).mono ?_); rintro _ _ ⟨rfl, ⟨e5, rfl⟩, ht5⟩; (try simp only [over_drew] at ht5); (try simp only [size_drewT, World.size_alloc, size_over] at ht5); have HT5 := hid ht5; have he5 : 2 ≤ e5.heap.size := (by have := ht5.blk.lt; simp at this; omega); clear ht5))
        refine M2.TreeQ.mk ovA ?_
        refine M2.tree_e1 (k := 7) rfl ?_
        go_wp2_with (fail)
        refine M2.TreeQ.mk ovA ?_
        repeat (refine M2.tree_q rfl rfl ?_; go_big_quiet_step (fail); with_reducible refine wpQuiet_nil ?_)
        refine M2.tree_e1 (k := 10) rfl ?_
        go_wp2_with (fail)
        refine M2.TreeQ.mk ovA ?_
        repeat (refine M2.tree_q rfl rfl ?_; go_big_quiet_step (fail); with_reducible refine wpQuiet_nil ?_)
        refine M2.tree_done ?_
        go_wp2
        go_ret
        exact SdNewP.mk (p := (W1.heap.size + 1 + 1 + e5.heap.size + 1)) (pw := (W1.heap.size + 1)) (pt := (W1.heap.size + 1 + 1) + 1) (mt := (W1.heap.size + 1 + 1)) (mc := (W1.heap.size + 1 + 1 + e5.heap.size)) (ms := (W1.heap.size)) rfl (ovB O1.out) (by exact blA) (WinAt.chg (G := []) HWa.out (by exact chA) (by simp)) hm2 (by repeat (first | with_reducible exact HT5.out | with_reducible refine tmAt_alloc ?_ _ | with_reducible refine tmAt_over ?_ _ | with_reducible refine tmAt_drew ?_)) (by repeat (first | (refine MapK.new' e32 ?_; (first | rfl | (focus (simp; done)) | (focus (simp; omega)))) | with_reducible refine mapK_alloc ?_ _ | with_reducible refine mapK_over ?_ _ | with_reducible refine mapK_drew ?_)) (by repeat (first | (refine MapK.new' e32 ?_; (first | rfl | (focus (simp; done)) | (focus (simp; omega)))) | with_reducible refine mapK_alloc ?_ _ | with_reducible refine mapK_over ?_ _ | with_reducible refine mapK_drew ?_)) (by omega) (by omega) (by omega)
      refine M2.tree_e (k := 7) rfl ?_ ?_
      · go_wp2_with (fail)
        refine M2.TreeQ.mk ovA ?_
        refine M2.tree_e1 (k := 5) rfl ?_
        go_wp2_with ((go_at_call 38; (with_reducible refine (HTn.out _).mono ?_); rintro _ _ ⟨rfl, ⟨e5, rfl⟩, ht5⟩; (try simp only [over_drew] at ht5); (try simp only [size_drewT, World.size_alloc, size_over] at ht5); have HT5 := hid ht5; have he5 : 2 ≤ e5.heap.size := (by have := ht5.blk.lt; simp at this; omega); clear ht5))
        refine M2.TreeQ.mk ovA ?_
        repeat (refine M2.tree_q rfl rfl ?_; go_big_quiet_step (fail); with_reducible refine wpQuiet_nil ?_)
        refine M2.tree_e1 (k := 10) rfl ?_
        go_wp2_with (fail)
        refine M2.TreeQ.mk ovA ?_
        repeat (refine M2.tree_q rfl rfl ?_; go_big_quiet_step (fail); with_reducible refine wpQuiet_nil ?_)
        refine M2.tree_done ?_
        go_wp2
        go_ret
        exact SdNewP.mk (p := (W1.heap.size + 1 + 1 + 1 + e5.heap.size)) (pw := (W1.heap.size + 1)) (pt := (W1.heap.size + 1 + 1 + 1) + 1) (mt := (W1.heap.size + 1 + 1 + 1)) (mc := (W1.heap.size + 1 + 1)) (ms := (W1.heap.size)) rfl (ovB O1.out) (by exact blA) (WinAt.chg (G := []) HWa.out (by exact chA) (by simp)) hm2 (by repeat (first | with_reducible exact HT5.out | with_reducible refine tmAt_alloc ?_ _ | with_reducible refine tmAt_over ?_ _ | with_reducible refine tmAt_drew ?_)) (by repeat (first | (refine MapK.new' e32 ?_; (first | rfl | (focus (simp; done)) | (focus (simp; omega)))) | with_reducible refine mapK_alloc ?_ _ | with_reducible refine mapK_over ?_ _ | with_reducible refine mapK_drew ?_)) (by repeat (first | (refine MapK.new' e32 ?_; (first | rfl | (focus (simp; done)) | (focus (simp; omega)))) | with_reducible refine mapK_alloc ?_ _ | with_reducible refine mapK_over ?_ _ | with_reducible refine mapK_drew ?_)) (by omega) (by omega) (by omega)
      exact M2.tree_no
    refine M2.tree_e (k := 7) rfl ?_ ?_
    · go_wp2_with (fail)
      refine M2.TreeQ.mk ovA ?_
      refine M2.tree_e1 (k := 2) rfl ?_
      go_wp2_with ((go_at_call 37; (with_reducible refine (HWn.out _ ovA).mono ?_); rintro _ _ ⟨rfl, rfl, hwa⟩; (try simp only [size_drewT, World.size_alloc, size_over] at hwa); have HWa := hid hwa; clear hwa))
      refine M2.TreeQ.mk ovA ?_
      refine M2.tree_e1 (k := 5) rfl ?_
      go_wp2_with ((go_at_call 38; (with_reducible refine (HTn.out _).mono ?_); rintro _ _ ⟨rfl, ⟨e5, rfl⟩, ht5⟩; (try simp only [over_drew] at ht5); (try simp only [size_drewT, World.size_alloc, size_over] at ht5); have HT5 := hid ht5; have he5 : 2 ≤ e5.heap.size := (by have := ht5.blk.lt; simp at this; omega); clear ht5))
      refine M2.TreeQ.mk ovA ?_
      repeat (refine M2.tree_q rfl rfl ?_; go_big_quiet_step (fail); with_reducible refine wpQuiet_nil ?_)
      refine M2.tree_e1 (k := 10) rfl ?_
      go_wp2_with (fail)
      refine M2.TreeQ.mk ovA ?_
      repeat (refine M2.tree_q rfl rfl ?_; go_big_quiet_step (fail); with_reducible refine wpQuiet_nil ?_)
      refine M2.tree_done ?_
      go_wp2
      go_ret
      exact SdNewP.mk (p := (W1.heap.size + 1 + 1 + 1 + e5.heap.size)) (pw := (W1.heap.size + 1 + 1)) (pt := (W1.heap.size + 1 + 1 + 1) + 1) (mt := (W1.heap.size + 1 + 1 + 1)) (mc := (W1.heap.size + 1)) (ms := (W1.heap.size)) rfl (ovB O1.out) (by exact blA) (WinAt.chg (G := []) HWa.out (by exact chA) (by simp)) hm2 (by repeat (first | with_reducible exact HT5.out | with_reducible refine tmAt_alloc ?_ _ | with_reducible refine tmAt_over ?_ _ | with_reducible refine tmAt_drew ?_)) (by repeat (first | (refine MapK.new' e32 ?_; (first | rfl | (focus (simp; done)) | (focus (simp; omega)))) | with_reducible refine mapK_alloc ?_ _ | with_reducible refine mapK_over ?_ _ | with_reducible refine mapK_drew ?_)) (by repeat (first | (refine MapK.new' e32 ?_; (first | rfl | (focus (simp; done)) | (focus (simp; omega)))) | with_reducible refine mapK_alloc ?_ _ | with_reducible refine mapK_over ?_ _ | with_reducible refine mapK_drew ?_)) (by omega) (by omega) (by omega)
    exact M2.tree_no
  exact M2.tree_no
end
section
open Go.RowKit

abbrev ksS (S : List (Nat × Sr)) : List Nat := srtN (S.map (·.1))
structure Duo (base b0 b n sz mb : Nat) (L : List Se) (S : List (Nat × Sr)) (p pw pt mt mc ms : Nat) (Fw : List Nat) (st : Sd) (T : Nat) (W : World) : Prop where
  sd : SdAt base W p pw pt mt mc ms Fw st
  hb : base ≤ W.heap.size
  bk : BkAt b0 W b n sz mb L
  eq : bkOf L = S
  sep : ∀ k ∈ bkB b mb L, k ∉ sndF p pw pt mt mc ms Fw
  len : S.length ≤ 64
  all : ∀ u, (getS S u).all.length ≤ 60
  inv : SdInv S T st
  now : st.now ≤ 4294967296 * T
  tT : T ≤ 200
  tk : st.tk ≤ 1000
section
variable {base b0 b n sz mb : Nat} {L : List Se} {S : List (Nat × Sr)} {p pw pt mt mc ms : Nat} {Fw : List Nat} {st : Sd} {T : Nat} {W : World}
theorem Duo.ok (h : Duo base b0 b n sz mb L S p pw pt mt mc ms Fw st T W) (u : Nat) : SrOk (getS S u) := by rw [← h.eq]; exact getS_ok h.bk u
theorem Duo.cl (h : Duo base b0 b n sz mb L S p pw pt mt mc ms Fw st T W) (u : Nat) : (getS S u).cl.length ≤ 900 := by have := cl_le (h.ok u) (h.all u); omega
theorem Duo.ids (h : Duo base b0 b n sz mb L S p pw pt mt mc ms Fw st T W) : L.map (·.id) = S.map (·.1) := by rw [← h.eq]; simp
theorem Duo.nd (h : Duo base b0 b n sz mb L S p pw pt mt mc ms Fw st T W) : (ksS S).Nodup := by
  unfold ksS
  rw [(srtN_perm _).nodup_iff, ← h.ids]; exact h.bk.ids
theorem ks_mem (u : Nat) : u ∈ ksS S ↔ u ∈ S.map (·.1) := (srtN_perm _).mem_iff
theorem Duo.hL (h : Duo base b0 b n sz mb L S p pw pt mt mc ms Fw st T W) : L.length ≤ 1000 := by
  have h1 := congrArg List.length h.ids
  simp only [List.length_map] at h1
  have := h.len
  omega
theorem Duo.nowtk (h : Duo base b0 b n sz mb L S p pw pt mt mc ms Fw st T W) : st.now + st.tk < 18446744073709551616 := by
  have h1 := h.now
  have h2 := h.tT
  have h3 := h.tk
  have : 4294967296 * T ≤ 4294967296 * 200 := Nat.mul_le_mul_left _ h2
  omega
theorem Duo.ov (h : Duo base b0 b n sz mb L S p pw pt mt mc ms Fw st T W) {W' : World} (hW : ∃ e, W' = over W e) : Duo base b0 b n sz mb L S p pw pt mt mc ms Fw st T W' :=
  ⟨h.sd.ov hW, Nat.le_trans h.hb (sz_over hW), bk_ov h.bk hW, h.eq, h.sep, h.len, h.all, h.inv, h.now, h.tT, h.tk⟩
theorem Duo.to (h : Duo base b0 b n sz mb L S p pw pt mt mc ms Fw st T W) {W' : World} {F' : List Nat} {st' : Sd} {T' : Nat} (k : SdTo base W p pw pt mt mc ms Fw st' W' F') (hi : SdInv S T' st') (hn : st'.now ≤ 4294967296 * T') (hT : T' ≤ 200) (ht : st'.tk = st.tk) : Duo base b0 b n sz mb L S p pw pt mt mc ms F' st' T' W' :=
  ⟨k.at_, Nat.le_trans h.hb k.sz, h.bk.cg k.ch h.sep, h.eq, fun i hi => k.apart (h.bk.blt i hi).2 (h.sep i hi), h.len, h.all, hi, hn, hT, by rw [ht]; exact h.tk⟩
def DuoFr (base b0 b n sz mb : Nat) (L : List Se) (S : List (Nat × Sr)) (p pw pt mt mc ms : Nat) (Fw : List Nat) (ep : Nat) (fs : List Ft) (st' : Sd) (T' : Nat) (out : Value → Value) (W : World) (en : Ending) (w' : World) : Prop :=
  ∃ v l F', en = .returned (out v) ∧ l.map Gx.t = fs ∧ GrsAt ep W.heap.size w' v l ∧ Duo base b0 b n sz mb L S p pw pt mt mc ms F' st' T' w' ∧ Chg (sndF p pw pt mt mc ms Fw) W w' ∧ (∀ k ∈ grsB v l, k ∉ sndF p pw pt mt mc ms F') ∧ (∀ k ∈ F', k ∈ Fw ∨ W.heap.size ≤ k)
theorem Duo.fr (h : Duo base b0 b n sz mb L S p pw pt mt mc ms Fw st T W) {ep : Nat} {fs : List Ft} {st' : Sd} {T' : Nat} {out : Value → Value} {en : Ending} {w' : World} (k : SdFr base W p pw pt mt mc ms Fw ep fs st' out en w') (hi : SdInv S T' st') (hn : st'.now ≤ 4294967296 * T') (hT : T' ≤ 200) (ht : st'.tk = st.tk) : DuoFr base b0 b n sz mb L S p pw pt mt mc ms Fw ep fs st' T' out W en w' := by
  obtain ⟨v, l, F', rfl, h1, h2, h3, h4⟩ := k
  refine ⟨v, l, F', rfl, h1, h2, h.to h3 hi hn hT ht, h3.ch, fun i hi hm => ?_, h3.nw⟩
  have hl := (h2.lt i hi).1
  have hs := h4 i hi
  have hp : ∀ j ∈ [p, pt, mt, mc, ms], j < W.heap.size := fun j hj => (h.sd.lt j (by simp only [sndF, List.mem_cons] at hj ⊢; simp at hj; omega)).2
  simp at hp
  simp only [sndF, List.mem_cons] at hm
  rcases hm with hm | hm | hm | hm | hm | hm
  · omega
  · omega
  · omega
  · omega
  · omega
  · exact hs hm
theorem Duo.kept (h : Duo base b0 b n sz mb L S p pw pt mt mc ms Fw st T W) : Kept st (pump S (ksS S) st).2 := (pump_is h.ok (ksS S) st h.nd (fun u _ => h.inv.pls u)).kept
theorem Duo.pump (h : Duo base b0 b n sz mb L S p pw pt mt mc ms Fw st T W) : Calls Tryz.prog 15 #[.pointer (some ⟨p, 0, none⟩), .pointer (some ⟨b, 0, none⟩)] W (DuoFr base b0 b n sz mb L S p pw pt mt mc ms Fw st.e (pump S (ksS S) st).1 (pump S (ksS S) st).2 T (fun v => v) W) := by
  have hx := sPump_any h.sd h.hb h.bk h.sep h.hL (by rw [h.eq]; exact h.cl) (by rw [h.eq]; exact h.all) (by rw [h.eq]; exact fun u _ => h.inv.pls u) h.nowtk
  rw [h.ids, h.eq] at hx
  have hk := h.kept
  exact hx.mono (fun en w' hf => h.fr hf (h.inv.pump h.ok h.nd (fun u hu => (ks_mem u).1 hu)) (by rw [hk.now]; exact h.now) h.tT hk.tk)
theorem take_kept (hok : ∀ u, SrOk (getS S u)) {ks : List Nat} (hn : ks.Nodup) (h : SdInv S T st) (kd e u sum : Nat) (p : Pl) : (takeS S ks st kd e u p sum).2.now = st.now ∧ (takeS S ks st kd e u p sum).2.tk = st.tk ∧ (takeS S ks st kd e u p sum).2.e = st.e ∧ (takeS S ks st kd e u p sum).2.most = st.most := by
  by_cases hb : (kd ≠ 4 ∧ kd ≠ 5) ∨ e ≠ st.e
  · rw [takeS_bad hb]; exact ⟨rfl, rfl, rfl, rfl⟩
  · have h1 : kd = 4 ∨ kd = 5 := by omega
    have h2 : e = st.e := by omega
    cases hh : hasS (getS S u) p with
    | none => rw [takeS_no h1 h2 hh]; exact ⟨rfl, rfl, rfl, rfl⟩
    | some y =>
      obtain ⟨c, b⟩ := y
      cases hbf : bef p.w (st.come u).w with
      | true => rw [takeS_old h1 h2 hh hbf]; exact ⟨rfl, rfl, rfl, rfl⟩
      | false =>
        by_cases hs : sumP c p.count = sum
        · rw [takeS_go h1 h2 hh hbf hs]
          have hp : IsPl (getS S u) p := ⟨c, b, hasS_iff.1 hh⟩
          have ht : (tkS (getS S u) (decide (kd = 5)) st u p).now = st.now ∧ (tkS (getS S u) (decide (kd = 5)) st u p).tk = st.tk ∧ (tkS (getS S u) (decide (kd = 5)) st u p).e = st.e ∧ (tkS (getS S u) (decide (kd = 5)) st u p).most = st.most ∧ ∀ v, IsPl (getS S v) ((tkS (getS S u) (decide (kd = 5)) st u p).sent v) := by
            have h2 : ∀ s2 : Sd, (s2 = (tk1 st u p).back u ∨ s2 = tk1 st u p) → s2.now = st.now ∧ s2.tk = st.tk ∧ s2.e = st.e ∧ s2.most = st.most ∧ ∀ v, IsPl (getS S v) (s2.sent v) := by
              rintro s2 (rfl | rfl)
              · exact ⟨rfl, rfl, rfl, rfl, isPl_fset h.pls (by show IsPl _ (fset st.come u p u); rw [fset_get]; exact hp)⟩
              · exact ⟨rfl, rfl, rfl, rfl, h.pls⟩
            have h3 : ∀ s2 : Sd, (s2.now = st.now ∧ s2.tk = st.tk ∧ s2.e = st.e ∧ s2.most = st.most ∧ ∀ v, IsPl (getS S v) (s2.sent v)) → (tk3 s2 u p).now = st.now ∧ (tk3 s2 u p).tk = st.tk ∧ (tk3 s2 u p).e = st.e ∧ (tk3 s2 u p).most = st.most ∧ ∀ v, IsPl (getS S v) ((tk3 s2 u p).sent v) := by
              intro s2 hs2
              unfold tk3
              split
              · exact ⟨hs2.1, hs2.2.1, hs2.2.2.1, hs2.2.2.2.1, isPl_fset hs2.2.2.2.2 hp⟩
              · exact hs2
            unfold tkS tk4
            have h4 := h3 _ (h2 (if decide (kd = 5) = true then (tk1 st u p).back u else tk1 st u p) (by split; exact .inl rfl; exact .inr rfl))
            split
            · exact h4
            · split
              · exact h4
              · exact h4
          have hk := (pump_is hok ks _ hn (fun v _ => ht.2.2.2.2 v)).kept
          exact ⟨hk.now.trans ht.1, hk.tk.trans ht.2.1, hk.e.trans ht.2.2.1, hk.most.trans ht.2.2.2.1⟩
        · rw [takeS_new h1 h2 hh hbf hs]
          unfold anewS
          simp only
          cases cutS (getS S u) u ⟨((st.back u).come u).chunk, 0, 0⟩ 1073741824 with
          | none => exact ⟨rfl, rfl, rfl, rfl⟩
          | some y => exact ⟨rfl, rfl, rfl, rfl⟩
theorem Duo.take (h : Duo base b0 b n sz mb L S p pw pt mt mc ms Fw st T W) (kd e u sum pc pb pn : Nat) (hu : u < 4294967296) (hpc : pc < 4294967296) (hpb : pb < 4294967296) (hpn : pn < 4294967296) (ct N : Int) (cl : Bool) (fa : Option Addr) (fn fc : Nat) :
    Calls Tryz.prog 19 #[.pointer (some ⟨p, 0, none⟩), .pointer (some ⟨b, 0, none⟩), .agg #[.int .u8 (kd : Nat), .int .u32 (e : Nat), .int .u32 (u : Nat), .int .u32 (pc : Nat), .int .u32 (pb : Nat), .int .u32 (pn : Nat), .int .u32 ct, .bool cl, .int .u64 (sum : Nat), .slice fa fn fc, .int .i64 N]] W
      (DuoFr base b0 b n sz mb L S p pw pt mt mc ms Fw st.e (takeS S (ksS S) st kd e u ⟨pc, pb, pn⟩ sum).1.1 (takeS S (ksS S) st kd e u ⟨pc, pb, pn⟩ sum).2 T (fun v => .tuple #[v, .bool (takeS S (ksS S) st kd e u ⟨pc, pb, pn⟩ sum).1.2.1, .int .u16 ((takeS S (ksS S) st kd e u ⟨pc, pb, pn⟩ sum).1.2.2 : Nat)]) W) := by
  have hx := sTake_any h.sd h.hb h.bk h.sep h.hL (by rw [h.eq]; exact h.cl) (by rw [h.eq]; exact h.all) (by rw [h.eq]; exact h.inv.plc) (by rw [h.eq]; exact h.inv.pls) h.nowtk kd e u sum pc pb pn hu hpc hpb hpn ct N cl fa fn fc
  rw [h.ids, h.eq] at hx
  have hk := take_kept h.ok h.nd h.inv kd e u sum ⟨pc, pb, pn⟩
  exact hx.mono (fun en w' hf => h.fr hf (h.inv.take h.ok h.nd (fun u hu => (ks_mem u).1 hu) kd e u sum _) (by rw [hk.1]; exact h.now) h.tT hk.2.1)
theorem tick_kept (hok : ∀ u, SrOk (getS S u)) {ks : List Nat} (hn : ks.Nodup) (h : SdInv S T st) (k : Nat) : (tickS S ks st k).2.now = st.now + k ∧ (tickS S ks st k).2.tk = st.tk ∧ (tickS S ks st k).2.e = st.e ∧ (tickS S ks st k).2.most = st.most ∧ (tickS S ks st k).2.come = st.come := by
  unfold tickS
  simp only
  have h1 := due_k S (tduo st.ts (st.now + k)) { st with now := st.now + k, ts := st.ts.map (tupd (st.now + k) st.tk) }
  have h2 := (pump_is hok ks _ hn (fun v _ => h1.pl h.plc h.pls v)).kept
  exact ⟨h2.now.trans h1.now, h2.tk.trans h1.tk, h2.e.trans h1.e, h2.most.trans h1.most, h2.come.trans h1.come⟩
theorem Duo.tick (h : Duo base b0 b n sz mb L S p pw pt mt mc ms Fw st T W) (k : Nat) (hk : k < 4294967296) (hT : T + 1 ≤ 200) :
    Calls Tryz.prog 25 #[.pointer (some ⟨p, 0, none⟩), .pointer (some ⟨b, 0, none⟩), .int .u32 (k : Nat)] W
      (DuoFr base b0 b n sz mb L S p pw pt mt mc ms Fw st.e (tickS S (ksS S) st k).1 (tickS S (ksS S) st k).2 (T + 1) (fun v => v) W) := by
  have h1 := h.now
  have h2 := h.tT
  have h3 : 4294967296 * T ≤ 4294967296 * 200 := Nat.mul_le_mul_left _ h2
  have hts : st.ts.length ≤ 1000 := by
    obtain ⟨m, hm⟩ := h.sd.tm
    have := tsort_len hm.tms.sort (fun x hx => (h.inv.ts x hx).1)
    have := h.len
    simp at *
    omega
  have hx := sTick_any h.sd h.hb h.bk h.sep h.hL (by rw [h.eq]; exact h.cl) (by rw [h.eq]; exact h.all) (by rw [h.eq]; exact h.inv.plc) (by rw [h.eq]; exact h.inv.pls) k (by omega) h.tk (fun x hx => by have := (h.inv.ts x hx).2; omega) hts
  rw [h.ids, h.eq] at hx
  have hq := tick_kept h.ok h.nd h.inv k
  exact hx.mono (fun en w' hf => h.fr hf (h.inv.tick h.ok h.nd (fun u hu => (ks_mem u).1 hu) k) (by rw [hq.1, Nat.mul_add]; omega) hT hq.2.1)
theorem Duo.backlog (h : Duo base b0 b n sz mb L S p pw pt mt mc ms Fw st T W) : Calls Tryz.prog 26 #[.pointer (some ⟨p, 0, none⟩), .pointer (some ⟨b, 0, none⟩)] W (Ret W (.int .i64 (backlogS S (ksS S) st))) := by
  have hx := sBacklog_any h.sd h.bk h.hL (by rw [h.eq]; exact h.cl) (by rw [h.eq]; exact h.inv.plc)
  rw [h.ids, h.eq] at hx
  exact hx
end
theorem Duo.start {base b0 b n sz mb : Nat} {L : List Se} {S : List (Nat × Sr)} {p pw pt mt mc ms : Nat} {Fw : List Nat} {W : World} {ep tk : Nat} {most : Int} (hs : SdAt base W p pw pt mt mc ms Fw (sdNew ep most tk)) (hb : base ≤ W.heap.size) (hk : BkAt b0 W b n sz mb L) (he : bkOf L = S) (hsep : ∀ k ∈ bkB b mb L, k ∉ sndF p pw pt mt mc ms Fw) (hl : S.length ≤ 64) (ha : ∀ u, (getS S u).all.length ≤ 60) (htk : tk ≤ 1000) : Duo base b0 b n sz mb L S p pw pt mt mc ms Fw (sdNew ep most tk) 0 W :=
  ⟨hs, hb, hk, he, hsep, hl, ha, SdInv.new (fun u => by rw [← he]; exact getS_ok hk u) _ _ _, Nat.zero_le _, by omega, htk⟩
end
section
open Go.RowKit
attribute [local go_sem] over_drew chg_drew

theorem s_ids : ksS sS1 = [5] := by unfold ksS; simp [srtN]
theorem s_alls (u : Nat) : (getS sS1 u).all.length ≤ 60 := by
  refine getS_mem (P := fun s => s.all.length ≤ 60) (fun x hx => ?_) (by simp [Sr.zero, Sr.all]) u
  simp at hx; subst hx; simp [Sr.all]
theorem grs_at {ep base : Nat} {w : World} {v : Value} {l : List Gx} (h : GrsAt ep base w v l) {k : Nat} (hk : k < l.length) : ∃ b off cap, v = .slice (some ⟨b, off, none⟩) l.length cap ∧ b < w.heap.size ∧ ∀ j u, (l[k].cs ep)[j]? = some u → w.cell? ⟨b, off + k * 11 + j, none⟩ = some u := by
  obtain ⟨a, cap, rfl, hs⟩ := Own.slice (Gx.cs_len ep) h.row
  obtain ⟨b, off, rfl, hb, hcell⟩ := hs.rec_ k l[k] (List.getElem?_eq_getElem hk)
  exact ⟨b, off, cap, rfl, hb, hcell⟩
theorem s_put {base b mb : Nat} {W : World} (h : BkAt base W b 2 4 mb []) (hb : base ≤ W.heap.size) (hT : TabW W) : Calls Tryz.prog 39 #[.pointer (some ⟨b, 0, none⟩), .int .u32 5, .agg #[.int .i64 10, .int .u64 1]] W (BkPut W base b 2 4 mb [] sS1) := by
  refine (put_any h hb hT (by simp) (by omega) (by omega) (by omega) (id := 5) (by omega) (by simp [getS, Sr.zero]) ⟨10, 1⟩ (kn_wf _ _ (by omega) (by omega))).mono (fun en w' hp => ?_)
  unfold PutB at hp
  rw [show bkOf ([] : List Se) = [] from rfl, if_pos s_may1, s_put1] at hp
  exact hp
theorem s_has : (getS sS1 5).has sFin [⟨10, 1⟩] false := by
  rw [sS1_get]
  exact ⟨rfl, by decide, fun h => (by cases h), by decide +kernel⟩
theorem sep_keep {B : List Nat} {N p pw pt mt mc ms : Nat} {F F' : List Nat} (h : ∀ k ∈ B, k ∉ sndF p pw pt mt mc ms F) (hl : ∀ k ∈ B, k < N) (hn : ∀ k ∈ F', k ∈ F ∨ N ≤ k) : ∀ k ∈ B, k ∉ sndF p pw pt mt mc ms F' := by
  intro k hk hm
  have h1 := h k hk
  have h2 := hl k hk
  simp only [sndF, List.mem_cons] at h1 hm
  rcases hm with hm | hm | hm | hm | hm | hm
  · exact h1 (.inl hm)
  · exact h1 (.inr (.inl hm))
  · exact h1 (.inr (.inr (.inl hm)))
  · exact h1 (.inr (.inr (.inr (.inl hm))))
  · exact h1 (.inr (.inr (.inr (.inr (.inl hm)))))
  · rcases hn k hm with h3 | h3
    · exact h1 (.inr (.inr (.inr (.inr (.inr h3)))))
    · omega
set_option maxRecDepth 100000 in
set_option maxHeartbeats 8000000 in
theorem kn15_any (w : World) (hT : TabW w) : Calls Tryz.prog 10 #[] w (Ret w (.bool true)) := by
  have HNew : Hid (∀ W, Calls Tryz.prog 9 #[.agg #[.int .i64 2, .int .i64 9000, .int .i64 4, .int .i64 500, .int .i64 10, .int .i64 0], .int .u32 3] W (SdNewP W 3 500 10)) := hid (fun W => sNew_yes ⟨2, 9000, 4, 500, 10, 0⟩ (by decide) 10 rfl 3 W)
  have HNb : Hid (∀ W, Calls Tryz.prog 28 #[.int .i64 2, .int .i64 4] W (NewPost W 2 4)) := hid (fun W => new_any 2 4 (by omega) (by omega) W)
  have HT := hid hT
  clear hT
  go_enter Tryz.func10, Tryz.ntmps10
  go_wp2_with (first
    | (go_at_call 9
       (with_reducible refine (HNew.out _).mono ?_)
       rintro _ W0 ⟨p, pw, pt, mt, mc, ms, Fw, rfl, hov, hs⟩
       have O0 : Hid (∃ e, W0 = over w e) := hid (by obtain ⟨e, he⟩ := hov; rw [he]; exact ovA)
       have H0 : Hid (SdAt w.heap.size W0 p pw pt mt mc ms Fw (sdNew 3 500 10)) := hid (hs.mono (by simp))
       clear hov hs HNew)
    | (go_at_call 28
       (with_reducible refine (HNb.out _).mono ?_)
       rintro _ W1 ⟨b, mb, rfl, hov, hb⟩
       have O1 : Hid (∃ e, W1 = over W0 e) := hid hov
       have HB1 := hid hb
       have HPut := hid (fun (W : World) (hW : ∃ e, W = over W1 e) => s_put (bk_ov hb hW) (Nat.le_trans (sz_over O1.out) (sz_over hW)) (TabW.ov HT.out (ov_tr O0.out (ov_tr O1.out hW))))
       clear hov hb HNb)
    | (go_at_call 39
       (with_reducible refine (HPut.out _ ovA).mono ?_)
       rintro _ W2 ⟨rfl, L2, hc2, hb2, hbs, hf, hd⟩
       have HBS := hid hbs
       have hlow : ∀ k ∈ sndF p pw pt mt mc ms Fw, k < W0.heap.size := fun k hk => (H0.out.lt k hk).2
       have hsep : ∀ k ∈ bkB b mb L2, k ∉ sndF p pw pt mt mc ms Fw := fun k hk hm => by have := (hb2.blt k hk).1; have := hlow k hm; omega
       have hs2 : SdAt w.heap.size W2 p pw pt mt mc ms Fw (sdNew 3 500 10) := (H0.out.ov O1.out).chg hc2 (fun k hk hm => by have := (HB1.out.blt k (bkF_B hm)).1; have := hlow k hk; omega)
       have hD2 : Duo w.heap.size W0.heap.size b 2 4 mb L2 sS1 p pw pt mt mc ms Fw sK0 0 W2 := Duo.start hs2 (Nat.le_trans (sz_over O0.out) (Nat.le_trans (sz_over O1.out) hc2.size)) hb2 hbs hsep (by simp) s_alls (by omega)
       have OW2 : Hid (∃ e, W2 = over w e) := hid (Chg.ov (ov_tr O0.out O1.out) hc2 (fun k hk => by have := (HB1.out.blt k (bkF_B hk)).1; have := sz_over O0.out; omega))
       have HD2 := hid hD2
       have HPu1 : Hid (∀ W, (∃ e, W = over W2 e) → Calls Tryz.prog 15 #[.pointer (some ⟨p, 0, none⟩), .pointer (some ⟨b, 0, none⟩)] W (DuoFr w.heap.size W0.heap.size b 2 4 mb L2 sS1 p pw pt mt mc ms Fw 3 sP1.1 sP1.2 0 (fun v => v) W)) := hid (fun W hW => by
         have k := (hD2.ov hW).pump
         rw [s_ids] at k
         exact k)
       clear hc2 hb2 hbs hf hd hlow hsep hs2 hD2 HPut HB1 H0)
    | (go_at_call 15
       (with_reducible refine (HPu1.out _ ovA).mono ?_)
       rintro _ W3 ⟨v3, l3, F3, rfl, hm3, hg3, hd3, hc3, hs3, hn3⟩
       have hll : l3.map (fun x => x.t.f.bits.length) = [128] := by rw [← sk1, ← hm3, List.map_map]; rfl
       obtain ⟨x3, rfl⟩ : ∃ x, l3 = [x] := by
         have := congrArg List.length hll
         simp at this
         exact List.length_eq_one_iff.1 this
       have HX3 : Hid (x3.t.f.bits.length = 128) := hid (by simpa using hll)
       have HG3 := hid hg3
       have HD3 := hid hd3
       have HS3 := hid hs3
       have OW3 : Hid (∃ e, W3 = over w e) := hid (Chg.ov (OW2.out) (by exact hc3) (fun k hk => (HD2.out.sd.lt k hk).1))
       have HPu2 : Hid (∀ W, (∃ e, W = over W3 e) → Calls Tryz.prog 15 #[.pointer (some ⟨p, 0, none⟩), .pointer (some ⟨b, 0, none⟩)] W (DuoFr w.heap.size W0.heap.size b 2 4 mb L2 sS1 p pw pt mt mc ms F3 sP1.2.e sP2.1 sP2.2 0 (fun v => v) W)) := hid (fun W hW => by
         have k := (hd3.ov hW).pump
         rw [s_ids] at k
         exact k)
       clear hm3 hg3 hd3 hc3 hs3 hn3 hll HPu1 HD2 OW2)
    | (go_at_call 15
       (with_reducible refine (HPu2.out _ ovA).mono ?_)
       rintro _ W4 ⟨v4, l4, F4, rfl, hm4, hg4, hd4, hc4, hs4, hn4⟩
       obtain rfl : l4 = [] := by
         have := congrArg List.length hm4
         rw [sk2] at this
         exact List.eq_nil_of_length_eq_zero (by simpa using this)
       obtain ⟨a4, c4, rfl, _⟩ := Own.slice (Gx.cs_len _) hg4.row
       have HG4 := hid (HG3.out.chg hc4 HS3.out)
       have HD4 := hid hd4
       have HS4 := hid (sep_keep HS3.out (fun k hk => (HG3.out.lt k hk).2) hn4)
       have OW4 : Hid (∃ e, W4 = over w e) := hid (Chg.ov (OW3.out) (by exact hc4) (fun k hk => (HD3.out.sd.lt k hk).1))
       have HTi : Hid (∀ W, (∃ e, W = over W4 e) → Calls Tryz.prog 25 #[.pointer (some ⟨p, 0, none⟩), .pointer (some ⟨b, 0, none⟩), .int .u32 10] W (DuoFr w.heap.size W0.heap.size b 2 4 mb L2 sS1 p pw pt mt mc ms F4 sP2.2.e sP3.1 sP3.2 1 (fun v => v) W)) := hid (fun W hW => by
         have k := (hd4.ov hW).tick 10 (by omega) (by omega)
         rw [s_ids] at k
         exact k)
       clear hm4 hg4 hd4 hc4 hs4 hn4 HPu2 HD3 HG3 HS3 OW3)
    | (go_at_call 25
       (with_reducible refine (HTi.out _ ovA).mono ?_)
       rintro _ W5 ⟨v5, l5, F5, rfl, hm5, hg5, hd5, hc5, hs5, hn5⟩
       have h5l : l5.length = 1 := by
         have := congrArg List.length hm5
         rw [sk3] at this
         simpa using this
       obtain ⟨a5, c5, rfl, _⟩ := Own.slice (Gx.cs_len _) hg5.row
       rw [h5l]
       have HG5 := hid (HG4.out.chg hc5 HS4.out)
       have HD5 := hid hd5
       have HS5 := hid (sep_keep HS4.out (fun k hk => (HG4.out.lt k hk).2) hn5)
       have OW5 : Hid (∃ e, W5 = over w e) := hid (Chg.ov (OW4.out) (by exact hc5) (fun k hk => (HD4.out.sd.lt k hk).1))
       have hfin : (getS (bkOf L2) 5).fin = sFin := by rw [HBS.out, sS1_get, sFin_eq]
       have hcl2 : (getS (bkOf L2) 5).cl.length ≤ 900 := by rw [HBS.out, sS1_get]; simp
       have HEnd : Hid (∀ W, (∃ e, W = over W5 e) → Calls Tryz.prog 21 #[.pointer (some ⟨b, 0, none⟩), .int .u32 5] W (Ret W (.agg #[.int .u32 0, .int .u32 128, .int .u32 1]))) := hid (fun W hW => by
         have k := bend_any (bk_ov hd5.bk hW) 5 hcl2
         rw [hfin] at k
         exact k)
       have hhas : (getS (bkOf L2) 5).has sFin [⟨10, 1⟩] false := by
         rw [HBS.out]
         exact s_has
       have HSum : Hid (∀ W, (∃ e, W = over W5 e) → Calls Tryz.prog 18 #[.pointer (some ⟨b, 0, none⟩), .int .u32 5, .agg #[.int .u32 0, .int .u32 128, .int .u32 1]] W (Ret W (.tuple #[.int .u64 (sSum : Nat), .int .u16 0]))) := hid (fun W hW => sum_any (bk_ov hd5.bk hW) 5 hhas hcl2)
       have htk := fun (W : World) (hW : ∃ e, W = over W5 e) => (hd5.ov hW).take 4 3 5 sSum 0 128 1 (by omega) (by omega) (by omega) (by omega) 0 0 false none 0 0
       have HTa : Hid (∀ W, (∃ e, W = over W5 e) → Calls Tryz.prog 19 #[.pointer (some ⟨p, 0, none⟩), .pointer (some ⟨b, 0, none⟩), .agg #[.int .u8 4, .int .u32 3, .int .u32 5, .int .u32 0, .int .u32 128, .int .u32 1, .int .u32 0, .bool false, .int .u64 (sSum : Nat), .slice none 0 0, .int .i64 0]] W (DuoFr w.heap.size W0.heap.size b 2 4 mb L2 sS1 p pw pt mt mc ms F5 sP3.2.e sP4.1.1 sP4.2 1 (fun v => .tuple #[v, .bool true, .int .u16 0]) W)) := hid (fun W hW => by
         have k := htk W hW
         rw [s_ids] at k
         rw [show takeS sS1 [5] sP3.2 4 3 5 ⟨0, 128, 1⟩ sSum = sP4 from rfl] at k
         rw [sk4.2.1, sk4.2.2] at k
         exact k)
       clear hm5 hg5 hd5 hc5 hs5 hn5 HTi HD4 HG4 HS4 OW4 hfin hcl2 hhas htk h5l)
    | (go_at_call 21; (with_reducible refine (HEnd.out _ ovA).mono ?_); rintro _ _ ⟨⟨e6, rfl⟩, rfl⟩)
    | (go_at_call 18; (with_reducible refine (HSum.out _ ovA).mono ?_); rintro _ _ ⟨⟨e7, rfl⟩, rfl⟩)
    | (go_at_call 19
       (with_reducible refine (HTa.out _ ovA).mono ?_)
       rintro _ W6 ⟨v6, l6, F6, rfl, hm6, hg6, hd6, hc6, hs6, hn6⟩
       obtain rfl : l6 = [] := by
         have := congrArg List.length hm6
         rw [sk4.1] at this
         exact List.eq_nil_of_length_eq_zero (by simpa using this)
       obtain ⟨a6, c6, rfl, _⟩ := Own.slice (Gx.cs_len _) hg6.row
       have hc56 : Chg (sndF p pw pt mt mc ms F5) W5 W6 := Chg.trans (by exact chA) hc6
       have HG6 := hid (HG5.out.chg hc56 HS5.out)
       have OW6 : Hid (∃ e, W6 = over w e) := hid (Chg.ov (OW5.out) hc56 (fun k hk => (HD5.out.sd.lt k hk).1))
       obtain ⟨bq, oq, cq, hv3, hbq, hcell⟩ := grs_at HG6.out (k := 0) (by simp)
       have q10 := hcell 10 _ rfl
       have q10' : W6.cell? ⟨bq, oq + 10, none⟩ = some (.int .i64 128) := by
         have h1 : oq + 0 * 11 + 10 = oq + 10 := by omega
         rw [h1] at q10
         rw [q10]
         show some (Value.int .i64 ((x3.t.f.bits.length : Nat) : Int)) = _
         rw [HX3.out]; rfl
       subst hv3
       have HBk : Hid (∀ W, (∃ e, W = over W6 e) → Calls Tryz.prog 26 #[.pointer (some ⟨p, 0, none⟩), .pointer (some ⟨b, 0, none⟩)] W (Ret W (.int .i64 0))) := hid (fun W hW => by
         have k := (hd6.ov hW).backlog
         rw [s_ids, sk5.1] at k
         exact k)
       have HWy : Hid (∀ W, (∃ e, W = over W6 e) → Calls Tryz.prog 24 #[.pointer (some ⟨p, 0, none⟩)] W (Ret W (.int .i64 0))) := hid (fun W hW => by
         have k := sWayN_any (hd6.ov hW).sd
         rw [sk5.2.1] at k
         exact k)
       have HEp : Hid (∀ W, (∃ e, W = over W6 e) → Calls Tryz.prog 34 #[.pointer (some ⟨p, 0, none⟩)] W (Ret W (.int .u32 3))) := hid (fun W hW => by
         have k := sEpoch_any (hd6.ov hW).sd
         rw [sk5.2.2] at k
         exact k)
       clear hm6 hg6 hd6 hc6 hs6 hn6 hc56 q10 hcell HTa HD5 HG5 HS5 HG6 OW5 HX3)
    | (go_at_call 26; (with_reducible refine (HBk.out _ ovA).mono ?_); rintro _ _ ⟨⟨e8, rfl⟩, rfl⟩)
    | (go_at_call 24; (with_reducible refine (HWy.out _ ovA).mono ?_); rintro _ _ ⟨⟨e9, rfl⟩, rfl⟩)
    | (go_at_call 34; (with_reducible refine (HEp.out _ ovA).mono ?_); rintro _ _ ⟨⟨e10, rfl⟩, rfl⟩))
  go_ret
  exact ⟨(ovB OW6.out), rfl⟩
end
end Go.Proofs.YtnihngljmmbenaaGreatDoor
