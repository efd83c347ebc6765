/- Walks: the reference's window. -/
import Derived.Test.YtbkekpfancbemaaWinG
namespace Go.Proofs.Ytbkekpfancbemaa
set_option linter.unusedVariables false
set_option linter.unusedSimpArgs false
open Go.RowKit

set_option maxHeartbeats 400000 in
theorem rbefore_any (a b : Pl) (w : World) : Calls Try.prog 17 #[a.v, b.v] w (Ret w (.bool (bef a b))) := by
  unfold Pl.v
  by_cases h : a.c = b.c
  · have hb := hid (show bef a b = decide (a.n < b.n) by simp [bef, h])
    have g1 : decide (a.c < b.c) = false := by simp; omega
    have g2 : (a.c == b.c) = true := by simp [h]
    clear h
    go_enter Try.func17, Try.ntmps17
    go_wp2
    go_ret
    exact ⟨(by (try unfold Ov); repeat (first | with_reducible exact ex_over | with_reducible exact over_self _ | with_reducible refine ex_into ?_ _ | with_reducible refine ex_alloc ?_ _ | with_reducible refine ex_drew ?_ | ((with_reducible refine ex_setCell ?_ ?_ _); rotate_left; (first | omega | (simp; done) | (simp; omega))) | ((with_reducible refine ex_chg ?_ _ ?_); rotate_left; (first | assumption | (exact Hid.out (by assumption)))) | exact ex_over)), ret_bool (by rw [hb.out])⟩
  · have hb := hid (show bef a b = decide (a.c < b.c) by simp [bef, h])
    have g2 : (a.c == b.c) = false := by simp [h]
    clear h
    cases g1 : decide (a.c < b.c)
    · go_enter Try.func17, Try.ntmps17
      go_wp2
      go_ret
      exact ⟨(by (try unfold Ov); repeat (first | with_reducible exact ex_over | with_reducible exact over_self _ | with_reducible refine ex_into ?_ _ | with_reducible refine ex_alloc ?_ _ | with_reducible refine ex_drew ?_ | ((with_reducible refine ex_setCell ?_ ?_ _); rotate_left; (first | omega | (simp; done) | (simp; omega))) | ((with_reducible refine ex_chg ?_ _ ?_); rotate_left; (first | assumption | (exact Hid.out (by assumption)))) | exact ex_over)), ret_bool (by rw [hb.out, g1])⟩
    · go_enter Try.func17, Try.ntmps17
      go_wp2
      go_ret
      exact ⟨(by (try unfold Ov); repeat (first | with_reducible exact ex_over | with_reducible exact over_self _ | with_reducible refine ex_into ?_ _ | with_reducible refine ex_alloc ?_ _ | with_reducible refine ex_drew ?_ | ((with_reducible refine ex_setCell ?_ ?_ _); rotate_left; (first | omega | (simp; done) | (simp; omega))) | ((with_reducible refine ex_chg ?_ _ ?_); rotate_left; (first | assumption | (exact Hid.out (by assumption)))) | exact ex_over)), ret_bool (by rw [hb.out, g1])⟩

/-- The reference's window in memory. -/
def RWinAt (base : Nat) (w : World) (p : Nat) (most : Int) (xs : List Pc) (F : List Nat) : Prop :=
  ∃ v, Blk w p [.int .i64 most, v] 46 ∧ Own base 32 8 Pc.cs w v xs ∧ base ≤ p ∧ v.ownBlock ≠ some p ∧ F = p :: v.ownBlock.toList
theorem RWinAt.chg {base : Nat} {w w' : World} {p : Nat} {most : Int} {xs : List Pc} {F G : List Nat} (h : RWinAt base w p most xs F) (hc : Chg G w w') (hd : ∀ k ∈ F, k ∉ G) : RWinAt base w' p most xs F := by
  obtain ⟨v, h1, h2, h3, h4, rfl⟩ := h
  exact ⟨v, h1.chg hc (hd p (by simp)), h2.chg hc (fun g hg => hd g (by simp [hg])), h3, h4, rfl⟩
theorem RWinAt.lt {base : Nat} {w : World} {p : Nat} {most : Int} {xs : List Pc} {F : List Nat} (h : RWinAt base w p most xs F) : ∀ k ∈ F, base ≤ k ∧ k < w.heap.size := by
  obtain ⟨v, h1, h2, h3, h4, rfl⟩ := h
  intro k hk
  rcases List.mem_cons.1 hk with rfl | hk
  · exact ⟨h3, h1.lt⟩
  · exact h2.lt (by simpa using hk)
def RDid (base : Nat) (w : World) (p : Nat) (most : Int) (F : List Nat) (v : Value) (xs' : List Pc) (en : Ending) (w' : World) : Prop :=
  en = .returned v ∧ ∃ m F', w' = chg F w m ∧ RWinAt base w' p most xs' F' ∧ ∀ k ∈ F', k ∈ F ∨ w.heap.size ≤ k
theorem RDid.mk {base : Nat} {w w' : World} {p : Nat} {most : Int} {F F' : List Nat} {v : Value} {xs' : List Pc} (hc : Chg F w w') (hw : RWinAt base w' p most xs' F') (hF : ∀ k ∈ F', k ∈ F ∨ w.heap.size ≤ k) : RDid base w p most F v xs' (.returned v) w' := by
  obtain ⟨m, hm⟩ := chg_of hc
  exact ⟨rfl, m, F', hm, hw, hF⟩
theorem RDid.same {base : Nat} {w w' : World} {p : Nat} {most : Int} {F : List Nat} {v : Value} {xs : List Pc} (h : RWinAt base w p most xs F) (ho : ∃ e, w' = over w e) : RDid base w p most F v xs (.returned v) w' :=
  RDid.mk (Chg.of_ov ho F) (h.chg (G := []) (Chg.of_ov ho []) (by simp)) (fun k hk => .inl hk)

theorem sumN_take_succ {xs : List Pc} {k : Nat} (h : k < xs.length) : sumN (xs.take (k + 1)) = sumN (xs.take k) + xs[k].n := by
  rw [List.take_succ_eq_append_getElem h, sumN_append]; simp [sumN]

set_option maxHeartbeats 1000000 in
theorem rIn_any {base : Nat} {w : World} {p : Nat} {most : Int} {xs : List Pc} {F : List Nat} (h : RWinAt base w p most xs F) (hk : winOk most xs) : Calls Try.prog 26 #[.pointer (some ⟨p, 0, none⟩)] w (Ret w (.int .i64 (sumN xs))) := by
  obtain ⟨v, h1, h2, _⟩ := h
  have hp := h1.lt
  have c1 := h1.cell 1 rfl
  obtain ⟨a, cap, rfl, hs⟩ := Own.slice Pc.cs_len h2
  have hmax := len_max hs
  have hll := winOk_len hk
  have HK := hid hk
  clear h1 h2 hk
  go_enter Try.func26, Try.ntmps26
  go_wp2
  go_loopw [3, 4] (fun n i wr => ∃ (k : Nat) (N : Int), k ≤ xs.length ∧ i = .int .i64 k ∧ n = .int .i64 N ∧ 0 ≤ N ∧ N ≤ 65536 * k ∧ Ov w wr ∧ Hid (N = sumN (xs.take k))) (fun _ i _ => xs.length - (intOf i).toNat)
  case atStart => exact ⟨0, 0, Nat.zero_le _, rfl, rfl, by omega, by omega, over_self w, hid rfl⟩
  case round =>
    obtain ⟨k, N, hk, rfl, rfl, hN0, hN1, ⟨e, rfl⟩, hN⟩ := hrel
    by_cases hlt : k < xs.length
    · obtain ⟨b, off, rfl, hb, d0, d1, d2, d3, d4, d5, d6, d7⟩ := SlP.at_ hs hlt
      have hok := HK.out.1 _ (List.getElem_mem hlt)
      have ho1 := hok.1
      have ho2 := hok.2
      clear hok
      go_wp2_with fail
      go_roundw
      case rel => exact ⟨k + 1, _, by omega, by go_num, rfl, by omega, by push_cast; omega, (by (try unfold Ov); repeat (first | with_reducible exact ex_over | with_reducible exact over_self _ | with_reducible refine ex_into ?_ _ | with_reducible refine ex_alloc ?_ _ | with_reducible refine ex_drew ?_ | ((with_reducible refine ex_setCell ?_ ?_ _); rotate_left; (first | omega | (simp; done) | (simp; omega))) | ((with_reducible refine ex_chg ?_ _ ?_); rotate_left; (first | assumption | (exact Hid.out (by assumption)))) | exact ex_over)), hid (by rw [sumN_take_succ hlt, ← hN.out])⟩
      case measure => simp [intOf]; omega
    · go_wp2_with fail
      go_ret
      have h := hN.out
      rw [List.take_of_length_le (by omega)] at h
      exact ⟨(by (try unfold Ov); repeat (first | with_reducible exact ex_over | with_reducible exact over_self _ | with_reducible refine ex_into ?_ _ | with_reducible refine ex_alloc ?_ _ | with_reducible refine ex_drew ?_ | ((with_reducible refine ex_setCell ?_ ?_ _); rotate_left; (first | omega | (simp; done) | (simp; omega))) | ((with_reducible refine ex_chg ?_ _ ?_); rotate_left; (first | assumption | (exact Hid.out (by assumption)))) | exact ex_over)), ret_int h⟩

set_option maxHeartbeats 400000 in
theorem rRoom_any {base : Nat} {w : World} {p : Nat} {most : Int} {xs : List Pc} {F : List Nat} (h : RWinAt base w p most xs F) (hk : winOk most xs) : Calls Try.prog 28 #[.pointer (some ⟨p, 0, none⟩)] w (Ret w (.bool (decide (sumN xs < most)))) := by
  have HI := hid (fun W (hW : Ov w W) => rIn_any (h.chg (G := []) (Chg.of_ov hW []) (by simp)) hk)
  obtain ⟨v, h1, _⟩ := h
  have hp := h1.lt
  have c0 := h1.cell 0 rfl
  clear h1
  go_enter Try.func28, Try.ntmps28
  go_wp2_with fail
  refine wp_region_over (by kernel_rfl) (by kernel_rfl) ?_
  repeat (go_big_quiet_step ((go_at_call 26; exact quiet_over (HI.out _ (by (try unfold Ov); repeat (first | with_reducible exact ex_over | with_reducible exact over_self _ | with_reducible refine ex_into ?_ _ | with_reducible refine ex_alloc ?_ _ | with_reducible refine ex_drew ?_ | ((with_reducible refine ex_setCell ?_ ?_ _); rotate_left; (first | omega | (simp; done) | (simp; omega))) | ((with_reducible refine ex_chg ?_ _ ?_); rotate_left; (first | assumption | (exact Hid.out (by assumption)))) | exact ex_over))))))
  refine wpQuiet_nil ?_
  intro _ hw'
  obtain ⟨nq, rfl⟩ := hw'
  go_wp2_with fail
  go_ret
  exact ⟨(by (try unfold Ov); repeat (first | with_reducible exact ex_over | with_reducible exact over_self _ | with_reducible refine ex_into ?_ _ | with_reducible refine ex_alloc ?_ _ | with_reducible refine ex_drew ?_ | ((with_reducible refine ex_setCell ?_ ?_ _); rotate_left; (first | omega | (simp; done) | (simp; omega))) | ((with_reducible refine ex_chg ?_ _ ?_); rotate_left; (first | assumption | (exact Hid.out (by assumption)))) | exact ex_over)), rfl⟩

set_option maxRecDepth 100000 in
set_option maxHeartbeats 2000000 in
theorem rAdd_any {base : Nat} {w : World} {p : Nat} {most : Int} {xs : List Pc} {F : List Nat} (h : RWinAt base w p most xs F) (hk : winOk most xs) (x : Pc) (hx : x.wf) (hb : base ≤ w.heap.size) :
    Calls Try.prog 53 #[.pointer (some ⟨p, 0, none⟩), x.v] w (RDid base w p most F (.bool (addOk most xs x)) (addW most xs x)) := by
  have HW := hid h
  have HR := hid (fun e => rRoom_any (h.chg (G := []) (Chg.of_ov (w' := w.alloc e) (ex_alloc (over_self _) _) []) (by simp)) hk)
  unfold Pc.v
  cases g1 : decide (x.n < 1)
  rotate_left
  · have HN := hid (addOk_no1 (most := most) (xs := xs) g1)
    clear h
    go_enter Try.func53, Try.ntmps53
    go_wp2_with (go_at_call 28; (with_reducible refine (HR.out _).mono ?_); rintro _ _ ⟨⟨e1, rfl⟩, rfl⟩)
    go_ret
    rw [HN.out.1, HN.out.2]
    exact RDid.same HW.out (by (try unfold Ov); repeat (first | with_reducible exact ex_over | with_reducible exact over_self _ | with_reducible refine ex_into ?_ _ | with_reducible refine ex_alloc ?_ _ | with_reducible refine ex_drew ?_ | ((with_reducible refine ex_setCell ?_ ?_ _); rotate_left; (first | omega | (simp; done) | (simp; omega))) | ((with_reducible refine ex_chg ?_ _ ?_); rotate_left; (first | assumption | (exact Hid.out (by assumption)))) | exact ex_over))
  · cases g2 : decide (65536 < x.n)
    rotate_left
    · have HN := hid (addOk_no2 (most := most) (xs := xs) g2)
      clear h
      go_enter Try.func53, Try.ntmps53
      go_wp2_with (go_at_call 28; (with_reducible refine (HR.out _).mono ?_); rintro _ _ ⟨⟨e1, rfl⟩, rfl⟩)
      go_ret
      rw [HN.out.1, HN.out.2]
      exact RDid.same HW.out (by (try unfold Ov); repeat (first | with_reducible exact ex_over | with_reducible exact over_self _ | with_reducible refine ex_into ?_ _ | with_reducible refine ex_alloc ?_ _ | with_reducible refine ex_drew ?_ | ((with_reducible refine ex_setCell ?_ ?_ _); rotate_left; (first | omega | (simp; done) | (simp; omega))) | ((with_reducible refine ex_chg ?_ _ ?_); rotate_left; (first | assumption | (exact Hid.out (by assumption)))) | exact ex_over))
    · cases g3 : decide (sumN xs < most)
      · have HN := hid (addOk_no3 (most := most) (xs := xs) (p := x) g3)
        rw [g3] at HR
        clear h g3
        go_enter Try.func53, Try.ntmps53
        go_wp2_with (go_at_call 28; (with_reducible refine (HR.out _).mono ?_); rintro _ _ ⟨⟨e1, rfl⟩, rfl⟩)
        go_ret
        rw [HN.out.1, HN.out.2]
        exact RDid.same HW.out (by (try unfold Ov); repeat (first | with_reducible exact ex_over | with_reducible exact over_self _ | with_reducible refine ex_into ?_ _ | with_reducible refine ex_alloc ?_ _ | with_reducible refine ex_drew ?_ | ((with_reducible refine ex_setCell ?_ ?_ _); rotate_left; (first | omega | (simp; done) | (simp; omega))) | ((with_reducible refine ex_chg ?_ _ ?_); rotate_left; (first | assumption | (exact Hid.out (by assumption)))) | exact ex_over))
      · have HN := hid (addOk_yes g1 g2 g3)
        have hl := winOk_len hk
        rw [g3] at HR
        obtain ⟨v, h1, h2, h3, h4, h5⟩ := h
        have hp := h1.lt
        have c1 := h1.cell 1 rfl
        have f1 := h1.free 1
        have H1 := hid h1
        have H5 := hid h5
        have hpg : p ∉ v.ownBlock.toList := by simpa using fun h => h4 h
        have hq : w.heap.size ∉ v.ownBlock.toList := fun hm => by have := (Own.lt h2 (g := w.heap.size) (by simpa using hm)).2; omega
        have hq2 : v.ownBlock ≠ some w.heap.size := by simpa using hq
        clear h1 g3 h5
        go_enter Try.func53, Try.ntmps53
        go_wp2_with (go_at_call 28; (with_reducible refine (HR.out _).mono ?_); rintro _ _ ⟨⟨e1, rfl⟩, rfl⟩)
        refine M2.wp_region_mix [6, 7, 10] 7 (by kernel_rfl) (by kernel_rfl) (by decide) ?_
        simp only [List.take_succ_cons, List.take_zero, List.drop_succ_cons, List.drop_zero]
        refine M2.mixL_quiet 6 (by kernel_rfl) ?_
        simp only [List.take_succ_cons, List.take_zero, List.drop_succ_cons, List.drop_zero]
        repeat (go_big_quiet_step (fail))
        refine wpQuiet_nil ?_
        refine M2.mixL_eff rfl ?_
        go_wp2_with ((at_builtin; refine wpList_append' piece_elem Pc.cs_len Pc.cs_one rfl (.tmp 24) (.tmp 26) rfl (base := base) (v := v) (ys := xs) (xs := [x]) (by repeat (first | with_reducible exact h2 | ((with_reducible refine Own.set_ne ?_ ?_ _); rotate_left; (first | assumption | (focus (simp; done)) | (focus (simp [Value.ownBlock]; done)) | (focus (simp [Value.ownBlock]; omega)))) | ((with_reducible refine Own.in_some ?_ _ ?_); rotate_left; (first | assumption | (focus (simp; done)) | (focus (simp; omega)))) | ((with_reducible refine Own.in_one ?_ _ ?_); rotate_left; (first | assumption | (focus (simp [Value.ownBlock]; done)) | (focus (simp [Value.ownBlock]; omega)))) | ((with_reducible refine Own.chg ?_ (chg_chg _ _ _) ?_); rotate_left; (first | assumption | (focus (simp; done)) | (focus (simp; omega)))) | with_reducible refine Own.over ?_ _ | with_reducible refine Own.alloc ?_ _ | with_reducible refine Own.drew ?_ | exact h2)) rfl rfl (by simp; omega) (by first | exact Sl.one_new (y := x) (by simp; try omega) | exact Sl.drew (Sl.one_new (y := x) (by simp; try omega))) (by simp only [List.length_append, List.length_singleton]; unfold maxLen; omega) (by simp only [List.length_append, List.length_singleton]; omega) ?_; intro v' m hown' hv'; obtain ⟨g, c', rfl⟩ := Own.form1 hown'))
        refine M2.MixQ.mk (by (try unfold Ov); repeat (first | with_reducible exact ex_over | with_reducible exact over_self _ | with_reducible refine ex_into ?_ _ | with_reducible refine ex_alloc ?_ _ | with_reducible refine ex_drew ?_ | ((with_reducible refine ex_setCell ?_ ?_ _); rotate_left; (first | omega | (simp; done) | (simp; omega))) | ((with_reducible refine ex_chg ?_ _ ?_); rotate_left; (first | assumption | (exact Hid.out (by assumption)))) | exact ex_over)) ?_
        refine M2.mixL_nil ?_
        refine M2.mixL_eff rfl ?_
        go_wp2_with ((at_builtin; refine wpList_append' piece_elem Pc.cs_len Pc.cs_one rfl (.tmp 24) (.tmp 26) rfl (base := base) (v := v) (ys := xs) (xs := [x]) (by repeat (first | with_reducible exact h2 | ((with_reducible refine Own.set_ne ?_ ?_ _); rotate_left; (first | assumption | (focus (simp; done)) | (focus (simp [Value.ownBlock]; done)) | (focus (simp [Value.ownBlock]; omega)))) | ((with_reducible refine Own.in_some ?_ _ ?_); rotate_left; (first | assumption | (focus (simp; done)) | (focus (simp; omega)))) | ((with_reducible refine Own.in_one ?_ _ ?_); rotate_left; (first | assumption | (focus (simp [Value.ownBlock]; done)) | (focus (simp [Value.ownBlock]; omega)))) | ((with_reducible refine Own.chg ?_ (chg_chg _ _ _) ?_); rotate_left; (first | assumption | (focus (simp; done)) | (focus (simp; omega)))) | with_reducible refine Own.over ?_ _ | with_reducible refine Own.alloc ?_ _ | with_reducible refine Own.drew ?_ | exact h2)) rfl rfl (by simp; omega) (by first | exact Sl.one_new (y := x) (by simp; try omega) | exact Sl.drew (Sl.one_new (y := x) (by simp; try omega))) (by simp only [List.length_append, List.length_singleton]; unfold maxLen; omega) (by simp only [List.length_append, List.length_singleton]; omega) ?_; intro v' m hown' hv'; obtain ⟨g, c', rfl⟩ := Own.form1 hown'))
        refine M2.MixQ.mk trivial ?_
        refine M2.mixL_quiet 2 (by kernel_rfl) ?_
        simp only [List.take_succ_cons, List.take_zero, List.drop_succ_cons, List.drop_zero]
        repeat (go_big_quiet_step (fail))
        refine wpQuiet_nil ?_
        refine M2.mixL_eff rfl ?_
        go_wp2_with ((at_builtin; refine wpList_append' piece_elem Pc.cs_len Pc.cs_one rfl (.tmp 24) (.tmp 26) rfl (base := base) (v := v) (ys := xs) (xs := [x]) (by repeat (first | with_reducible exact h2 | ((with_reducible refine Own.set_ne ?_ ?_ _); rotate_left; (first | assumption | (focus (simp; done)) | (focus (simp [Value.ownBlock]; done)) | (focus (simp [Value.ownBlock]; omega)))) | ((with_reducible refine Own.in_some ?_ _ ?_); rotate_left; (first | assumption | (focus (simp; done)) | (focus (simp; omega)))) | ((with_reducible refine Own.in_one ?_ _ ?_); rotate_left; (first | assumption | (focus (simp [Value.ownBlock]; done)) | (focus (simp [Value.ownBlock]; omega)))) | ((with_reducible refine Own.chg ?_ (chg_chg _ _ _) ?_); rotate_left; (first | assumption | (focus (simp; done)) | (focus (simp; omega)))) | with_reducible refine Own.over ?_ _ | with_reducible refine Own.alloc ?_ _ | with_reducible refine Own.drew ?_ | exact h2)) rfl rfl (by simp; omega) (by first | exact Sl.one_new (y := x) (by simp; try omega) | exact Sl.drew (Sl.one_new (y := x) (by simp; try omega))) (by simp only [List.length_append, List.length_singleton]; unfold maxLen; omega) (by simp only [List.length_append, List.length_singleton]; omega) ?_; intro v' m hown' hv'; obtain ⟨g, c', rfl⟩ := Own.form1 hown'))
        refine M2.MixQ.mk trivial ?_
        refine M2.mixL_nil ?_
        go_wp2_with fail
        go_ret
        rw [HN.out.1, HN.out.2]
        have hF := H5.out
        subst hF
        have hg : v.ownBlock = some g ∨ w.heap.size ≤ g := by
          rcases hv' with hv' | ⟨g', hv', hle⟩
          · left; rw [← hv']; rfl
          · right; simp [Value.ownBlock] at hv'; simp at hle; omega
        have hgp : g ≠ p := by
          rintro rfl
          rcases hg with hg | hg
          · exact h4 hg
          · omega
        refine RDid.mk (by repeat (first | with_reducible exact Chg.refl _ _ | with_reducible refine Chg.alloc ?_ _ | with_reducible refine Chg.drew ?_ | with_reducible refine Chg.on ?_ _ | ((with_reducible refine Chg.setCell ?_ ?_ _); rotate_left; (first | (focus (left; simp; done)) | (focus (right; simp; done)) | (focus (right; simp; omega)) | (focus (left; simp; omega)))) | ((with_reducible refine Chg.in_ ?_ _ ?_); rotate_left; (first | assumption | exact fun i hi => Or.inl hi | (focus (intro i hi; left; simp [hi]; done)) | (focus (intro i hi; left; simp at hi ⊢; simp [hi]; done)) | (focus (intro i hi; simp at hi ⊢; simp [hi]; done)) | (focus (intro i hi; simp at hi ⊢; omega)))))) ⟨.slice (some ⟨g, 0, none⟩) (xs.length + 1) c', ?_, (by repeat (first | with_reducible exact hown' | ((with_reducible refine Own.set_ne ?_ ?_ _); rotate_left; (first | assumption | (focus (simp; done)) | (focus (simp [Value.ownBlock]; done)) | (focus (simp [Value.ownBlock]; omega)))) | ((with_reducible refine Own.in_some ?_ _ ?_); rotate_left; (first | assumption | (focus (simp; done)) | (focus (simp; omega)))) | ((with_reducible refine Own.in_one ?_ _ ?_); rotate_left; (first | assumption | (focus (simp [Value.ownBlock]; done)) | (focus (simp [Value.ownBlock]; omega)))) | ((with_reducible refine Own.chg ?_ (chg_chg _ _ _) ?_); rotate_left; (first | assumption | (focus (simp; done)) | (focus (simp; omega)))) | with_reducible refine Own.over ?_ _ | with_reducible refine Own.alloc ?_ _ | with_reducible refine Own.drew ?_ | exact hown')), h3, by simp [Value.ownBlock]; exact hgp, rfl⟩ ?_
        · have hB := H1.out
          exact Blk.to (cs' := [.int .i64 most, v].set 1 (.slice (some ⟨g, 0, none⟩) (xs.length + 1) c')) (by repeat (first | with_reducible assumption | with_reducible refine Blk.alloc ?_ _ | with_reducible refine Blk.drew ?_ | with_reducible refine Blk.on ?_ _ | ((with_reducible refine Blk.chg ?_ (chg_chg _ _ _) ?_); rotate_left; (first | assumption | (focus (simp; done)) | (focus (simp; omega)))) | ((with_reducible refine Blk.set ?_ _ _)) | ((with_reducible refine Blk.set_ne ?_ ?_ _); rotate_left; (first | assumption | (focus (simp; done)) | (focus (simp; omega)))))) rfl
        · intro k hk
          simp [Value.ownBlock] at hk ⊢
          rcases hk with rfl | rfl
          · exact .inl (.inl rfl)
          · rcases hg with hg | hg
            · exact .inl (.inr hg)
            · exact .inr hg
end Go.Proofs.Ytbkekpfancbemaa
