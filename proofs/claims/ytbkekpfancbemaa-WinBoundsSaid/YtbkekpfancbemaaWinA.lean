/- Walks: (*Win).Add, New, and what DeleteFunc does to a window. -/
import Derived.Test.YtbkekpfancbemaaWinW
namespace Go.Proofs.Ytbkekpfancbemaa
set_option linter.unusedVariables false
set_option linter.unusedSimpArgs false
open Go.RowKit

theorem addOk_no1 {most : Int} {xs : List Pc} {p : Pc} (h : decide (p.n < 1) = true) : addOk most xs p = false ∧ addW most xs p = xs := by
  have h := of_decide_eq_true h
  have : addOk most xs p = false := by unfold addOk; rw [decide_eq_false (by omega)]; rfl
  exact ⟨this, by simp [addW, this]⟩
theorem addOk_no2 {most : Int} {xs : List Pc} {p : Pc} (h : decide (65536 < p.n) = true) : addOk most xs p = false ∧ addW most xs p = xs := by
  have h := of_decide_eq_true h
  have : addOk most xs p = false := by unfold addOk; rw [decide_eq_false (p := p.n ≤ 65536) (by omega)]; simp
  exact ⟨this, by simp [addW, this]⟩
theorem addOk_no3 {most : Int} {xs : List Pc} {p : Pc} (h : decide (sumN xs < most) = false) : addOk most xs p = false ∧ addW most xs p = xs := by
  have : addOk most xs p = false := by unfold addOk; rw [h]; simp
  exact ⟨this, by simp [addW, this]⟩
theorem addOk_yes {most : Int} {xs : List Pc} {p : Pc} (h1 : decide (p.n < 1) = false) (h2 : decide (65536 < p.n) = false) (h3 : decide (sumN xs < most) = true) : addOk most xs p = true ∧ addW most xs p = xs ++ [p] := by
  have h1 := of_decide_eq_false h1
  have h2 := of_decide_eq_false h2
  have : addOk most xs p = true := by unfold addOk; rw [h3, decide_eq_true (p := 1 ≤ p.n) (by omega), decide_eq_true (p := p.n ≤ 65536) (by omega)]; rfl
  exact ⟨this, by simp [addW, this]⟩

theorem WDid.same {base : Nat} {w w' : World} {p : Nat} {most : Int} {F : List Nat} {v : Value} {xs : List Pc} (h : WinAt base w p most xs F) (ho : ∃ e, w' = over w e) : WDid base w p most F v xs (.returned v) w' := by
  obtain ⟨m, hm⟩ := chg_of (Chg.of_ov ho F)
  exact ⟨rfl, m, F, hm, h.chg (G := []) (Chg.of_ov ho []) (by simp), fun k hk => .inl hk⟩

theorem WDid.mk {base : Nat} {w w' : World} {p : Nat} {most : Int} {F F' : List Nat} {v : Value} {xs' : List Pc} (hc : Chg F w w') (hw : WinAt base w' p most xs' F') (hF : ∀ k ∈ F', k ∈ F ∨ w.heap.size ≤ k) : WDid base w p most F v xs' (.returned v) w' := by
  obtain ⟨m, hm⟩ := chg_of hc
  exact ⟨rfl, m, F', hm, hw, hF⟩

set_option maxRecDepth 100000 in
set_option maxHeartbeats 2000000 in
theorem winAdd_any {base : Nat} {w : World} {p : Nat} {most : Int} {xs : List Pc} {F : List Nat} (h : WinAt base w p most xs F) (hk : winOk most xs) (x : Pc) (hx : x.wf) (hb : base ≤ w.heap.size) :
    Calls Try.prog 21 #[.pointer (some ⟨p, 0, none⟩), x.v] w (WDid base w p most F (.bool (addOk most xs x)) (addW most xs x)) := by
  have HW := hid h
  have HR := hid (fun e => winRoom_any (h.chg (G := []) (Chg.of_ov (w' := w.alloc e) (ex_alloc (over_self _) _) []) (by simp)))
  unfold Pc.v
  cases g1 : decide (x.n < 1)
  rotate_left
  · have HN := hid (addOk_no1 (most := most) (xs := xs) g1)
    clear h
    go_enter Try.func21, Try.ntmps21
    go_wp2_with (go_at_call 27; (with_reducible refine (HR.out _).mono ?_); rintro _ _ ⟨⟨e1, rfl⟩, rfl⟩)
    go_ret
    rw [HN.out.1, HN.out.2]
    exact WDid.same HW.out (by (try unfold Ov); repeat (first | with_reducible exact ex_over | with_reducible exact over_self _ | with_reducible refine ex_into ?_ _ | with_reducible refine ex_alloc ?_ _ | with_reducible refine ex_drew ?_ | ((with_reducible refine ex_setCell ?_ ?_ _); rotate_left; (first | omega | (simp; done) | (simp; omega))) | ((with_reducible refine ex_chg ?_ _ ?_); rotate_left; (first | assumption | (exact Hid.out (by assumption)))) | exact ex_over))
  · cases g2 : decide (65536 < x.n)
    rotate_left
    · have HN := hid (addOk_no2 (most := most) (xs := xs) g2)
      clear h
      go_enter Try.func21, Try.ntmps21
      go_wp2_with (go_at_call 27; (with_reducible refine (HR.out _).mono ?_); rintro _ _ ⟨⟨e1, rfl⟩, rfl⟩)
      go_ret
      rw [HN.out.1, HN.out.2]
      exact WDid.same HW.out (by (try unfold Ov); repeat (first | with_reducible exact ex_over | with_reducible exact over_self _ | with_reducible refine ex_into ?_ _ | with_reducible refine ex_alloc ?_ _ | with_reducible refine ex_drew ?_ | ((with_reducible refine ex_setCell ?_ ?_ _); rotate_left; (first | omega | (simp; done) | (simp; omega))) | ((with_reducible refine ex_chg ?_ _ ?_); rotate_left; (first | assumption | (exact Hid.out (by assumption)))) | exact ex_over))
    · cases g3 : decide (sumN xs < most)
      · have HN := hid (addOk_no3 (most := most) (xs := xs) (p := x) g3)
        rw [g3] at HR
        clear h g3
        go_enter Try.func21, Try.ntmps21
        go_wp2_with (go_at_call 27; (with_reducible refine (HR.out _).mono ?_); rintro _ _ ⟨⟨e1, rfl⟩, rfl⟩)
        go_ret
        rw [HN.out.1, HN.out.2]
        exact WDid.same HW.out (by (try unfold Ov); repeat (first | with_reducible exact ex_over | with_reducible exact over_self _ | with_reducible refine ex_into ?_ _ | with_reducible refine ex_alloc ?_ _ | with_reducible refine ex_drew ?_ | ((with_reducible refine ex_setCell ?_ ?_ _); rotate_left; (first | omega | (simp; done) | (simp; omega))) | ((with_reducible refine ex_chg ?_ _ ?_); rotate_left; (first | assumption | (exact Hid.out (by assumption)))) | exact ex_over))
      · have HN := hid (addOk_yes g1 g2 g3)
        have hn1 : 1 ≤ x.n := by have := of_decide_eq_false g1; omega
        have hn2 : x.n ≤ 65536 := by have := of_decide_eq_false g2; omega
        have hs0 := (sumN_nonneg hk.1).1
        have hs1 := hk.2.1
        have hs2 := hk.2.2
        have hl := winOk_len hk
        have hs3 : sumN xs < 3000000 := by omega
        have hs4 : 0 ≤ sumN xs := by omega
        rw [g3] at HR
        obtain ⟨v, h1, h2, h3, h4, h5⟩ := h
        have hp := h1.lt
        have c1 := h1.cell 1 rfl
        have c2 := h1.cell 2 rfl
        have f1 := h1.free 1
        have f2 := h1.free 2
        have H1 := hid h1
        have H5 := hid h5
        have hpg : p ∉ v.ownBlock.toList := by simpa using fun h => h4 h
        have hq : w.heap.size ∉ v.ownBlock.toList := fun hm => by have := (Own.lt h2 (g := w.heap.size) (by simpa using hm)).2; omega
        have hq2 : v.ownBlock ≠ some w.heap.size := by simpa using hq
        clear h1 g3 h5
        go_enter Try.func21, Try.ntmps21
        go_wp2_with (go_at_call 27; (with_reducible refine (HR.out _).mono ?_); rintro _ _ ⟨⟨e1, rfl⟩, rfl⟩)
        refine M2.wp_region_mix [6, 7, 10] 7 (by kernel_rfl) (by kernel_rfl) (by decide) ?_
        simp only [List.take_succ_cons, List.take_zero, List.drop_succ_cons, List.drop_zero]
        refine M2.mixL_quiet 6 (by kernel_rfl) ?_
        simp only [List.take_succ_cons, List.take_zero, List.drop_succ_cons, List.drop_zero]
        repeat (go_big_quiet_step (fail))
        refine wpQuiet_nil ?_
        refine M2.mixL_eff rfl ?_
        go_wp2_with ((at_builtin; refine wpList_append' piece_elem Pc.cs_len Pc.cs_one rfl (.tmp 22) (.tmp 24) rfl (base := base) (v := v) (ys := xs) (xs := [x]) (by repeat (first | with_reducible exact h2 | ((with_reducible refine Own.set_ne ?_ ?_ _); rotate_left; (first | assumption | (focus (simp; done)) | (focus (simp [Value.ownBlock]; done)) | (focus (simp [Value.ownBlock]; omega)))) | ((with_reducible refine Own.in_some ?_ _ ?_); rotate_left; (first | assumption | (focus (simp; done)) | (focus (simp; omega)))) | ((with_reducible refine Own.in_one ?_ _ ?_); rotate_left; (first | assumption | (focus (simp [Value.ownBlock]; done)) | (focus (simp [Value.ownBlock]; omega)))) | ((with_reducible refine Own.chg ?_ (chg_chg _ _ _) ?_); rotate_left; (first | assumption | (focus (simp; done)) | (focus (simp; omega)))) | with_reducible refine Own.over ?_ _ | with_reducible refine Own.alloc ?_ _ | with_reducible refine Own.drew ?_ | exact h2)) rfl rfl (by simp; omega) (by first | exact Sl.one_new (y := x) (by simp; try omega) | exact Sl.drew (Sl.one_new (y := x) (by simp; try omega))) (by simp only [List.length_append, List.length_singleton]; unfold maxLen; omega) (by simp only [List.length_append, List.length_singleton]; omega) ?_; intro v' m hown' hv'; obtain ⟨g, c', rfl⟩ := Own.form1 hown'))
        refine M2.MixQ.mk (by (try unfold Ov); repeat (first | with_reducible exact ex_over | with_reducible exact over_self _ | with_reducible refine ex_into ?_ _ | with_reducible refine ex_alloc ?_ _ | with_reducible refine ex_drew ?_ | ((with_reducible refine ex_setCell ?_ ?_ _); rotate_left; (first | omega | (simp; done) | (simp; omega))) | ((with_reducible refine ex_chg ?_ _ ?_); rotate_left; (first | assumption | (exact Hid.out (by assumption)))) | exact ex_over)) ?_
        refine M2.mixL_nil ?_
        refine M2.mixL_eff rfl ?_
        go_wp2_with ((at_builtin; refine wpList_append' piece_elem Pc.cs_len Pc.cs_one rfl (.tmp 22) (.tmp 24) rfl (base := base) (v := v) (ys := xs) (xs := [x]) (by repeat (first | with_reducible exact h2 | ((with_reducible refine Own.set_ne ?_ ?_ _); rotate_left; (first | assumption | (focus (simp; done)) | (focus (simp [Value.ownBlock]; done)) | (focus (simp [Value.ownBlock]; omega)))) | ((with_reducible refine Own.in_some ?_ _ ?_); rotate_left; (first | assumption | (focus (simp; done)) | (focus (simp; omega)))) | ((with_reducible refine Own.in_one ?_ _ ?_); rotate_left; (first | assumption | (focus (simp [Value.ownBlock]; done)) | (focus (simp [Value.ownBlock]; omega)))) | ((with_reducible refine Own.chg ?_ (chg_chg _ _ _) ?_); rotate_left; (first | assumption | (focus (simp; done)) | (focus (simp; omega)))) | with_reducible refine Own.over ?_ _ | with_reducible refine Own.alloc ?_ _ | with_reducible refine Own.drew ?_ | exact h2)) rfl rfl (by simp; omega) (by first | exact Sl.one_new (y := x) (by simp; try omega) | exact Sl.drew (Sl.one_new (y := x) (by simp; try omega))) (by simp only [List.length_append, List.length_singleton]; unfold maxLen; omega) (by simp only [List.length_append, List.length_singleton]; omega) ?_; intro v' m hown' hv'; obtain ⟨g, c', rfl⟩ := Own.form1 hown'))
        refine M2.MixQ.mk trivial ?_
        refine M2.mixL_quiet 2 (by kernel_rfl) ?_
        simp only [List.take_succ_cons, List.take_zero, List.drop_succ_cons, List.drop_zero]
        repeat (go_big_quiet_step (fail))
        refine wpQuiet_nil ?_
        refine M2.mixL_eff rfl ?_
        go_wp2_with ((at_builtin; refine wpList_append' piece_elem Pc.cs_len Pc.cs_one rfl (.tmp 22) (.tmp 24) rfl (base := base) (v := v) (ys := xs) (xs := [x]) (by repeat (first | with_reducible exact h2 | ((with_reducible refine Own.set_ne ?_ ?_ _); rotate_left; (first | assumption | (focus (simp; done)) | (focus (simp [Value.ownBlock]; done)) | (focus (simp [Value.ownBlock]; omega)))) | ((with_reducible refine Own.in_some ?_ _ ?_); rotate_left; (first | assumption | (focus (simp; done)) | (focus (simp; omega)))) | ((with_reducible refine Own.in_one ?_ _ ?_); rotate_left; (first | assumption | (focus (simp [Value.ownBlock]; done)) | (focus (simp [Value.ownBlock]; omega)))) | ((with_reducible refine Own.chg ?_ (chg_chg _ _ _) ?_); rotate_left; (first | assumption | (focus (simp; done)) | (focus (simp; omega)))) | with_reducible refine Own.over ?_ _ | with_reducible refine Own.alloc ?_ _ | with_reducible refine Own.drew ?_ | exact h2)) rfl rfl (by simp; omega) (by first | exact Sl.one_new (y := x) (by simp; try omega) | exact Sl.drew (Sl.one_new (y := x) (by simp; try omega))) (by simp only [List.length_append, List.length_singleton]; unfold maxLen; omega) (by simp only [List.length_append, List.length_singleton]; omega) ?_; intro v' m hown' hv'; obtain ⟨g, c', rfl⟩ := Own.form1 hown'))
        refine M2.MixQ.mk trivial ?_
        refine M2.mixL_nil ?_
        go_wp2_with fail
        refine M2.wp_region_mix [5] 5 (by kernel_rfl) (by kernel_rfl) (by decide) ?_
        simp only [List.take_succ_cons, List.take_zero, List.drop_succ_cons, List.drop_zero]
        refine M2.mixL_quiet 5 (by kernel_rfl) ?_
        simp only [List.take_succ_cons, List.take_zero, List.drop_succ_cons, List.drop_zero]
        repeat (go_big_quiet_step (fail))
        refine wpQuiet_nil ?_
        refine M2.mixL_nil ?_
        refine M2.mixL_eff rfl ?_
        go_wp2_with ((go_at_call 49; refine (add64_any p 1 (sumN xs) x.n _ (by go_simp) (by go_simp)).mono ?_; rintro _ _ ⟨rfl, rfl⟩))
        refine M2.MixQ.mk trivial ?_
        refine M2.mixL_nil ?_
        go_wp2_with fail
        go_ret
        rw [HN.out.1, HN.out.2]
        have hF := H5.out
        subst hF
        have hsum : wrap64 (sumN xs + x.n) = sumN (xs ++ [x]) := by rw [IntWalk.wrap64_in _ ⟨by omega, by omega⟩, sumN_append]; simp [sumN]
        rw [hsum]
        have hg : v.ownBlock = some g ∨ w.heap.size ≤ g := by
          rcases hv' with hv' | ⟨g', hv', hle⟩
          · left; rw [← hv']; rfl
          · right; simp [Value.ownBlock] at hv'; simp at hle; omega
        have hgp : g ≠ p := by
          rintro rfl
          rcases hg with hg | hg
          · exact h4 hg
          · omega
        refine WDid.mk (by repeat (first | with_reducible exact Chg.refl _ _ | with_reducible refine Chg.alloc ?_ _ | with_reducible refine Chg.drew ?_ | with_reducible refine Chg.on ?_ _ | ((with_reducible refine Chg.setCell ?_ ?_ _); rotate_left; (first | (focus (left; simp; done)) | (focus (right; simp; done)) | (focus (right; simp; omega)) | (focus (left; simp; omega)))) | ((with_reducible refine Chg.in_ ?_ _ ?_); rotate_left; (first | assumption | exact fun i hi => Or.inl hi | (focus (intro i hi; left; simp [hi]; done)) | (focus (intro i hi; left; simp at hi ⊢; simp [hi]; done)) | (focus (intro i hi; simp at hi ⊢; simp [hi]; done)) | (focus (intro i hi; simp at hi ⊢; omega)))))) ⟨.slice (some ⟨g, 0, none⟩) (xs.length + 1) c', ?_, (by repeat (first | with_reducible exact hown' | ((with_reducible refine Own.set_ne ?_ ?_ _); rotate_left; (first | assumption | (focus (simp; done)) | (focus (simp [Value.ownBlock]; done)) | (focus (simp [Value.ownBlock]; omega)))) | ((with_reducible refine Own.in_some ?_ _ ?_); rotate_left; (first | assumption | (focus (simp; done)) | (focus (simp; omega)))) | ((with_reducible refine Own.in_one ?_ _ ?_); rotate_left; (first | assumption | (focus (simp [Value.ownBlock]; done)) | (focus (simp [Value.ownBlock]; omega)))) | ((with_reducible refine Own.chg ?_ (chg_chg _ _ _) ?_); rotate_left; (first | assumption | (focus (simp; done)) | (focus (simp; omega)))) | with_reducible refine Own.over ?_ _ | with_reducible refine Own.alloc ?_ _ | with_reducible refine Own.drew ?_ | exact hown')), h3, by simp [Value.ownBlock]; exact hgp, rfl⟩ ?_
        · have hB := H1.out
          exact Blk.to (cs' := ([.int .i64 most, .int .i64 (sumN xs), v].set 2 (.slice (some ⟨g, 0, none⟩) (xs.length + 1) c')).set 1 (.int .i64 (sumN (xs ++ [x])))) (by repeat (first | with_reducible assumption | with_reducible refine Blk.alloc ?_ _ | with_reducible refine Blk.drew ?_ | with_reducible refine Blk.on ?_ _ | ((with_reducible refine Blk.chg ?_ (chg_chg _ _ _) ?_); rotate_left; (first | assumption | (focus (simp; done)) | (focus (simp; omega)))) | ((with_reducible refine Blk.set ?_ _ _)) | ((with_reducible refine Blk.set_ne ?_ ?_ _); rotate_left; (first | assumption | (focus (simp; done)) | (focus (simp; omega)))))) rfl
        · intro k hk
          simp [Value.ownBlock] at hk ⊢
          rcases hk with rfl | rfl
          · exact .inl (.inl rfl)
          · rcases hg with hg | hg
            · exact .inl (.inr hg)
            · exact .inr hg
end Go.Proofs.Ytbkekpfancbemaa
