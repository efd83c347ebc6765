/- Walks: the writer of bits: lay. -/
import Derived.Test.YthljlajdkdgieaaDoorBitW
import Derived.Test.YthljlajdkdgieaaDoorBitQ
import Derived.Test.YthljlajdkdgieaaDoorRef1b
namespace Go.Proofs.YthljlajdkdgieaaDoor
set_option linter.unusedVariables false
set_option linter.unusedSimpArgs false
open Go.RowKit

/-- A writer in memory: its blocks F, from 'base' on. -/
def WrAt (base : Nat) (w : World) (p : Nat) (l : List Bool) (F : List Nat) : Prop :=
  ∃ v, Blk w p [v, .int .i64 (l.length : Nat)] 131 ∧ OwnB base w v (pack l) ∧ base ≤ p ∧ v.ownBlock ≠ some p ∧ F = p :: v.ownBlock.toList
theorem WrAt.chg {base : Nat} {w w' : World} {p : Nat} {l : List Bool} {F G : List Nat} (h : WrAt base w p l F) (hc : Chg G w w') (hd : ∀ k ∈ F, k ∉ G) : WrAt base w' p l F := by
  obtain ⟨v, h1, h2, h3, h4, rfl⟩ := h
  exact ⟨v, h1.chg hc (hd p (by simp)), h2.chg hc (fun g hg => hd g (by simp [hg])), h3, h4, rfl⟩
theorem WrAt.lt {base : Nat} {w : World} {p : Nat} {l : List Bool} {F : List Nat} (h : WrAt base w p l F) : ∀ k ∈ F, base ≤ k ∧ k < w.heap.size := by
  obtain ⟨v, h1, h2, h3, h4, rfl⟩ := h
  intro k hk
  rcases List.mem_cons.1 hk with rfl | hk
  · exact ⟨h3, h1.lt⟩
  · exact h2.lt (by simpa using hk)
def WrDid (base : Nat) (w : World) (p : Nat) (F : List Nat) (l' : List Bool) (en : Ending) (w' : World) : Prop :=
  en = .returned (.tuple #[]) ∧ ∃ m F', w' = chg F w m ∧ WrAt base w' p l' F' ∧ ∀ k ∈ F', k ∈ F ∨ w.heap.size ≤ k
theorem WrDid.mk {base : Nat} {w w' : World} {p : Nat} {F F' : List Nat} {l' : List Bool} (hc : Chg F w w') (hw : WrAt base w' p l' F') (hF : ∀ k ∈ F', k ∈ F ∨ w.heap.size ≤ k) : WrDid base w p F l' (.returned (.tuple #[])) w' := by
  obtain ⟨m, hm⟩ := chg_of hc
  exact ⟨rfl, m, F', hm, hw, hF⟩

theorem mask_eq (b n : Nat) (hb : b < 256) : bits .and .u8 (b : Int) (255 * 2 ^ (8 - n) % 256) = ((mask b n : Nat) : Int) := by
  have := cast_shl8 255 (8 - n)
  have e : (255 : Int) * (2 : Int) ^ (8 - n) % (256 : Int) = ((255 <<< (8 - n) % 256 : Nat) : Int) := this
  rw [e, and8 _ _ hb (Nat.mod_lt _ (by decide))]; rfl

theorem Own.last {base : Nat} {w : World} {v : Value} {l : List Bool} (h : OwnB base w v (pack l)) (hk : l.length % 8 ≠ 0) :
    ∃ g cap, v = .slice (some ⟨g, 0, none⟩) (pack l).length cap ∧ base ≤ g ∧ g < w.heap.size ∧ w.cell? ⟨g, (pack l).length - 1, none⟩ = some (.int .u8 (((pack l)[(pack l).length - 1]'(lay_last hk) : Nat))) ∧ w.frozen? ⟨g, (pack l).length - 1, none⟩ = false :=
  OwnB.open_ h (lay_last hk)

set_option maxRecDepth 100000 in
set_option maxHeartbeats 2000000 in
theorem lay_0 {base : Nat} {w : World} {p : Nat} {l : List Bool} {F : List Nat} (h : WrAt base w p l F) (hl : l.length ≤ 1000000) (b n : Nat) (hb : b < 256) (hn : n ≤ 8) (hbw : base ≤ w.heap.size) (hk : l.length % 8 = 0) (h0 : 0 < n) :
    Calls Tryd.prog 70 #[.pointer (some ⟨p, 0, none⟩), .int .u8 (b : Nat), .int .i64 (n : Nat)] w (WrDid base w p F (l ++ hi b n)) := by
  obtain ⟨v, h1, h2, h3, h4, h5⟩ := h
  have hp := h1.lt
  have c0 := h1.cell 0 rfl
  have c1 := h1.cell 1 rfl
  have f0 := h1.free 0
  have f1 := h1.free 1
  have H1 := hid h1
  have H5 := hid h5
  have hpg : p ∉ v.ownBlock.toList := by simpa using fun h => h4 h
  have hq : w.heap.size ∉ v.ownBlock.toList := fun hm => by have := (Own.lt h2 (g := w.heap.size) (by simpa using hm)).2; omega
  have hq2 : v.ownBlock ≠ some w.heap.size := by simpa using hq
  have hpl : (pack l).length ≤ 1000000 := pack_len_le hl
  have hM := mask_eq b n hb
  clear h1 h5
  have hk' : (l.length : Int) % 8 = 0 := by omega
  have HP := hid (lay_p0 hk h0 hn (b := b))
  go_enter Tryd.func70, Tryd.ntmps70
  go_wp2_with (at_builtin; refine wpList_append' byte_elem bcs_len bcs_one rfl (.tmp 27) (.tmp 29) rfl (base := base) (v := v) (ys := pack l) (xs := [mask b n]) (by repeat (first | with_reducible exact h2 | ((with_reducible refine Own.set_ne ?_ ?_ _); rotate_left; (first | assumption | (focus (simp; done)) | (focus (simp [Value.ownBlock]; done)) | (focus (simp [Value.ownBlock]; omega)))) | ((with_reducible refine Own.in_some ?_ _ ?_); rotate_left; (first | assumption | (focus (simp; done)) | (focus (simp; omega)))) | ((with_reducible refine Own.in_one ?_ _ ?_); rotate_left; (first | assumption | (focus (simp [Value.ownBlock]; done)) | (focus (simp [Value.ownBlock]; omega)))) | ((with_reducible refine Own.chg ?_ (chg_chg _ _ _) ?_); rotate_left; (first | assumption | (focus (simp; done)) | (focus (simp; omega)))) | with_reducible refine Own.over ?_ _ | with_reducible refine Own.alloc ?_ _ | with_reducible refine Own.drew ?_ | exact h2)) rfl rfl (by simp; omega) (Sl.one_new (y := mask b n) (by simp; try omega)) (by simp only [List.length_append, List.length_singleton]; unfold maxLen; omega) (by simp only [List.length_append, List.length_singleton]; omega) ?_; intro v' m hown' hv'; obtain ⟨g, c', rfl⟩ := Own.form1 hown')
  go_end0
  have hF := H5.out
  subst hF
  have hg : v.ownBlock = some g ∨ w.heap.size ≤ g := by
    rcases hv' with hv' | ⟨g', hv', hle⟩
    · left; rw [← hv']; rfl
    · right; simp [Value.ownBlock] at hv'; simp at hle; omega
  have hgp : g ≠ p := by
    rintro rfl
    rcases hg with hg | hg
    · exact h4 hg
    · omega
  rw [HP.out] at hown'
  refine WrDid.mk (by repeat (first | with_reducible exact Chg.refl _ _ | (focus (refine ChS.chg ?_; (repeat (first | with_reducible exact ChS.refl _ _ | with_reducible refine ChS.drewl ?_ | with_reducible refine ChS.drewr ?_ | with_reducible refine ChS.over ?_ _ | with_reducible refine chS_chgs ?_ _ | ((with_reducible refine chS_set ?_ _ ?_ _); rotate_left; (first | assumption | (focus (simp; done)) | (focus (simp; assumption)))) | with_reducible refine ChS.alloc ?_ _ | ((with_reducible refine ChS.lit ?_ ?_ _ _); rotate_left; (first | assumption | (focus (simp; done)) | (focus (simp; assumption)))) | with_reducible refine ChS.alloc ?_ _)); done)) | with_reducible refine Chg.alloc ?_ _ | with_reducible refine Chg.drew ?_ | with_reducible refine Chg.on ?_ _ | ((with_reducible refine Chg.setCell ?_ ?_ _); rotate_left; (first | (focus (left; assumption)) | (focus (left; simp; done)) | (focus (right; simp; done)) | (focus (right; simp; omega)) | (focus (left; simp; omega)))) | ((with_reducible refine Chg.in_ ?_ _ ?_); rotate_left; (first | assumption | (focus (intro i hi; left; simp at hi; subst hi; assumption)) | exact fun i hi => Or.inl hi | (focus (intro i hi; left; simp [hi]; done)) | (focus (intro i hi; left; simp at hi ⊢; simp [hi]; done)) | (focus (intro i hi; simp at hi ⊢; simp [hi]; done)) | (focus (intro i hi; simp at hi ⊢; omega)))))) ⟨.slice (some ⟨g, 0, none⟩) ((pack l).length + 1) c', ?_, (by repeat (first | with_reducible exact hown' | ((with_reducible refine Own.set_ne ?_ ?_ _); rotate_left; (first | assumption | (focus (simp; done)) | (focus (simp [Value.ownBlock]; done)) | (focus (simp [Value.ownBlock]; omega)))) | ((with_reducible refine Own.in_some ?_ _ ?_); rotate_left; (first | assumption | (focus (simp; done)) | (focus (simp; omega)))) | ((with_reducible refine Own.in_one ?_ _ ?_); rotate_left; (first | assumption | (focus (simp [Value.ownBlock]; done)) | (focus (simp [Value.ownBlock]; omega)))) | ((with_reducible refine Own.chg ?_ (chg_chg _ _ _) ?_); rotate_left; (first | assumption | (focus (simp; done)) | (focus (simp; omega)))) | with_reducible refine Own.over ?_ _ | with_reducible refine Own.alloc ?_ _ | with_reducible refine Own.drew ?_ | exact hown')), h3, by simp [Value.ownBlock]; exact hgp, rfl⟩ ?_
  · have hB := H1.out
    exact Blk.to (cs' := ([v, .int .i64 (l.length : Nat)].set 0 (.slice (some ⟨g, 0, none⟩) ((pack l).length + 1) c')).set 1 (.int .i64 ((l.length : Int) + n))) (by repeat (first | with_reducible assumption | with_reducible refine Blk.alloc ?_ _ | with_reducible refine Blk.drew ?_ | with_reducible refine Blk.on ?_ _ | ((with_reducible refine Blk.chg ?_ (chg_chg _ _ _) ?_); rotate_left; (first | assumption | (focus (simp; done)) | (focus (simp; omega)))) | ((with_reducible refine Blk.set ?_ _ _)) | ((with_reducible refine Blk.set_ne ?_ ?_ _); rotate_left; (first | assumption | (focus (simp; done)) | (focus (simp; omega)))))) (by simp [hi_length])
  · intro k hk
    simp [Value.ownBlock] at hk ⊢
    rcases hk with rfl | rfl
    · exact .inl (.inl rfl)
    · rcases hg with hg | hg
      · exact .inl (.inr hg)
      · exact .inr hg

set_option maxRecDepth 100000 in
set_option maxHeartbeats 2000000 in
theorem lay_n {base : Nat} {w : World} {p : Nat} {l : List Bool} {F : List Nat} (h : WrAt base w p l F) (hl : l.length ≤ 1000000) (b : Nat) (hb : b < 256) (hbw : base ≤ w.heap.size) (hk : l.length % 8 = 0) :
    Calls Tryd.prog 70 #[.pointer (some ⟨p, 0, none⟩), .int .u8 (b : Nat), .int .i64 0] w (WrDid base w p F l) := by
  obtain ⟨v, h1, h2, h3, h4, h5⟩ := h
  have hp := h1.lt
  have c0 := h1.cell 0 rfl
  have c1 := h1.cell 1 rfl
  have f0 := h1.free 0
  have f1 := h1.free 1
  have H1 := hid h1
  have H5 := hid h5
  clear h1 h5
  have hk' : (l.length : Int) % 8 = 0 := by omega
  go_enter Tryd.func70, Tryd.ntmps70
  go_wp2
  go_end0
  have hF := H5.out
  subst hF
  refine WrDid.mk (by repeat (first | with_reducible exact Chg.refl _ _ | (focus (refine ChS.chg ?_; (repeat (first | with_reducible exact ChS.refl _ _ | with_reducible refine ChS.drewl ?_ | with_reducible refine ChS.drewr ?_ | with_reducible refine ChS.over ?_ _ | with_reducible refine chS_chgs ?_ _ | ((with_reducible refine chS_set ?_ _ ?_ _); rotate_left; (first | assumption | (focus (simp; done)) | (focus (simp; assumption)))) | with_reducible refine ChS.alloc ?_ _ | ((with_reducible refine ChS.lit ?_ ?_ _ _); rotate_left; (first | assumption | (focus (simp; done)) | (focus (simp; assumption)))) | with_reducible refine ChS.alloc ?_ _)); done)) | with_reducible refine Chg.alloc ?_ _ | with_reducible refine Chg.drew ?_ | with_reducible refine Chg.on ?_ _ | ((with_reducible refine Chg.setCell ?_ ?_ _); rotate_left; (first | (focus (left; assumption)) | (focus (left; simp; done)) | (focus (right; simp; done)) | (focus (right; simp; omega)) | (focus (left; simp; omega)))) | ((with_reducible refine Chg.in_ ?_ _ ?_); rotate_left; (first | assumption | (focus (intro i hi; left; simp at hi; subst hi; assumption)) | exact fun i hi => Or.inl hi | (focus (intro i hi; left; simp [hi]; done)) | (focus (intro i hi; left; simp at hi ⊢; simp [hi]; done)) | (focus (intro i hi; simp at hi ⊢; simp [hi]; done)) | (focus (intro i hi; simp at hi ⊢; omega)))))) ⟨v, ?_, (by repeat (first | with_reducible exact h2 | ((with_reducible refine Own.set_ne ?_ ?_ _); rotate_left; (first | assumption | (focus (simp; done)) | (focus (simp [Value.ownBlock]; done)) | (focus (simp [Value.ownBlock]; omega)))) | ((with_reducible refine Own.in_some ?_ _ ?_); rotate_left; (first | assumption | (focus (simp; done)) | (focus (simp; omega)))) | ((with_reducible refine Own.in_one ?_ _ ?_); rotate_left; (first | assumption | (focus (simp [Value.ownBlock]; done)) | (focus (simp [Value.ownBlock]; omega)))) | ((with_reducible refine Own.chg ?_ (chg_chg _ _ _) ?_); rotate_left; (first | assumption | (focus (simp; done)) | (focus (simp; omega)))) | with_reducible refine Own.over ?_ _ | with_reducible refine Own.alloc ?_ _ | with_reducible refine Own.drew ?_ | exact h2)), h3, h4, rfl⟩ (fun k hk => .inl hk)
  have hB := H1.out
  exact Blk.to (cs' := [v, .int .i64 (l.length : Nat)].set 1 (.int .i64 ((l.length : Int)))) (by repeat (first | with_reducible assumption | with_reducible refine Blk.alloc ?_ _ | with_reducible refine Blk.drew ?_ | with_reducible refine Blk.on ?_ _ | ((with_reducible refine Blk.chg ?_ (chg_chg _ _ _) ?_); rotate_left; (first | assumption | (focus (simp; done)) | (focus (simp; omega)))) | ((with_reducible refine Blk.set ?_ _ _)) | ((with_reducible refine Blk.set_ne ?_ ?_ _); rotate_left; (first | assumption | (focus (simp; done)) | (focus (simp; omega)))))) (by simp)

set_option maxRecDepth 100000 in
set_option maxHeartbeats 2000000 in
theorem lay_1 {base : Nat} {w : World} {p : Nat} {l : List Bool} {F : List Nat} (h : WrAt base w p l F) (hl : l.length ≤ 1000000) (b n : Nat) (hb : b < 256) (hn : n ≤ 8) (hbw : base ≤ w.heap.size) (hk : l.length % 8 ≠ 0) (h8 : n ≤ 8 - l.length % 8) :
    Calls Tryd.prog 70 #[.pointer (some ⟨p, 0, none⟩), .int .u8 (b : Nat), .int .i64 (n : Nat)] w (WrDid base w p F (l ++ hi b n)) := by
  obtain ⟨v, h1, h2, h3, h4, h5⟩ := h
  have hp := h1.lt
  have c0 := h1.cell 0 rfl
  have c1 := h1.cell 1 rfl
  have f0 := h1.free 0
  have f1 := h1.free 1
  have H1 := hid h1
  have H5 := hid h5
  have hpg : p ∉ v.ownBlock.toList := by simpa using fun h => h4 h
  have hq : w.heap.size ∉ v.ownBlock.toList := fun hm => by have := (Own.lt h2 (g := w.heap.size) (by simpa using hm)).2; omega
  have hq2 : v.ownBlock ≠ some w.heap.size := by simpa using hq
  have hpl : (pack l).length ≤ 1000000 := pack_len_le hl
  have hM := mask_eq b n hb
  clear h1 h5
  obtain ⟨g, cp, rfl, hg1, hg2, cg, fg⟩ := Own.last h2 hk
  have hgp : p ≠ g := by intro e; exact h4 (by rw [e]; rfl)
  have hgp' : g ≠ p := fun e => hgp e.symm
  have hL := pack_lt _ (List.getElem_mem (lay_last hk))
  have hq3 : (pack l).length - 1 < (pack l).length := lay_last hk
  have hq4 : 0 < (pack l).length := by omega
  have HP := hid (lay_p1 hk hn h8 (b := b))
  have hk' : ¬ (l.length : Int) % 8 = 0 := by omega
  have h8' : ¬ 8 - ((l.length % 8 : Nat) : Int) < (n : Int) := by omega
  go_enter Tryd.func70, Tryd.ntmps70
  go_wp2
  refine M2.wp_region_mix [19] 19 (by kernel_rfl) (by kernel_rfl) (by decide) ?_
  simp only [List.take_succ_cons, List.take_zero, List.drop_succ_cons, List.drop_zero]
  with_reducible refine M2.mixL_quiet 19 (by kernel_rfl) ?_
  simp only [List.take_succ_cons, List.take_zero, List.drop_succ_cons, List.drop_zero]
  repeat (go_big_quiet_step (fail))
  with_reducible refine wpQuiet_nil ?_
  with_reducible refine M2.mixL_nil ?_
  with_reducible refine M2.mixL_eff (by decide) ?_
  go_wp2_with (fail)
  refine M2.MixQ.mk trivial ?_
  with_reducible refine M2.mixL_nil ?_
  go_wp2_with fail
  go_end0
  have hF : F = [p, g] := H5.out
  subst hF
  refine WrDid.mk (by repeat (first | with_reducible exact Chg.refl _ _ | (focus (refine ChS.chg ?_; (repeat (first | with_reducible exact ChS.refl _ _ | with_reducible refine ChS.drewl ?_ | with_reducible refine ChS.drewr ?_ | with_reducible refine ChS.over ?_ _ | with_reducible refine chS_chgs ?_ _ | ((with_reducible refine chS_set ?_ _ ?_ _); rotate_left; (first | assumption | (focus (simp; done)) | (focus (simp; assumption)))) | with_reducible refine ChS.alloc ?_ _ | ((with_reducible refine ChS.lit ?_ ?_ _ _); rotate_left; (first | assumption | (focus (simp; done)) | (focus (simp; assumption)))) | with_reducible refine ChS.alloc ?_ _)); done)) | with_reducible refine Chg.alloc ?_ _ | with_reducible refine Chg.drew ?_ | with_reducible refine Chg.on ?_ _ | ((with_reducible refine Chg.setCell ?_ ?_ _); rotate_left; (first | (focus (left; assumption)) | (focus (left; simp; done)) | (focus (right; simp; done)) | (focus (right; simp; omega)) | (focus (left; simp; omega)))) | ((with_reducible refine Chg.in_ ?_ _ ?_); rotate_left; (first | assumption | (focus (intro i hi; left; simp at hi; subst hi; assumption)) | exact fun i hi => Or.inl hi | (focus (intro i hi; left; simp [hi]; done)) | (focus (intro i hi; left; simp at hi ⊢; simp [hi]; done)) | (focus (intro i hi; simp at hi ⊢; simp [hi]; done)) | (focus (intro i hi; simp at hi ⊢; omega)))))) ⟨.slice (some ⟨g, 0, none⟩) (pack l).length cp, ?_, ?_, h3, h4, rfl⟩ (fun k hk => .inl hk)
  · have hB := H1.out
    exact Blk.to (cs' := [.slice (some ⟨g, 0, none⟩) (pack l).length cp, .int .i64 (l.length : Nat)].set 1 (.int .i64 ((l.length : Int) + n))) (by repeat (first | with_reducible assumption | with_reducible refine Blk.alloc ?_ _ | with_reducible refine Blk.drew ?_ | with_reducible refine Blk.on ?_ _ | ((with_reducible refine Blk.chg ?_ (chg_chg _ _ _) ?_); rotate_left; (first | assumption | (focus (simp; done)) | (focus (simp; omega)))) | ((with_reducible refine Blk.set ?_ _ _)) | ((with_reducible refine Blk.set_ne ?_ ?_ _); rotate_left; (first | assumption | (focus (simp; done)) | (focus (simp; omega)))))) (by simp [hi_length])
  · rw [← HP.out]
    refine Own.set_ne (OwnB.set (Own.drew h2) (lay_last hk) ?_) (by simpa [Value.ownBlock] using hgp') _
    rw [cast_shr, or8 _ _ hL (shr_lt (mask_lt _ _))]

set_option maxRecDepth 100000 in
set_option maxHeartbeats 2000000 in
theorem lay_2 {base : Nat} {w : World} {p : Nat} {l : List Bool} {F : List Nat} (h : WrAt base w p l F) (hl : l.length ≤ 1000000) (b n : Nat) (hb : b < 256) (hn : n ≤ 8) (hbw : base ≤ w.heap.size) (hk : l.length % 8 ≠ 0) (h8 : 8 - l.length % 8 < n) :
    Calls Tryd.prog 70 #[.pointer (some ⟨p, 0, none⟩), .int .u8 (b : Nat), .int .i64 (n : Nat)] w (WrDid base w p F (l ++ hi b n)) := by
  obtain ⟨v, h1, h2, h3, h4, h5⟩ := h
  have hp := h1.lt
  have c0 := h1.cell 0 rfl
  have c1 := h1.cell 1 rfl
  have f0 := h1.free 0
  have f1 := h1.free 1
  have H1 := hid h1
  have H5 := hid h5
  have hpg : p ∉ v.ownBlock.toList := by simpa using fun h => h4 h
  have hq : w.heap.size ∉ v.ownBlock.toList := fun hm => by have := (Own.lt h2 (g := w.heap.size) (by simpa using hm)).2; omega
  have hq2 : v.ownBlock ≠ some w.heap.size := by simpa using hq
  have hpl : (pack l).length ≤ 1000000 := pack_len_le hl
  have hM := mask_eq b n hb
  clear h1 h5
  obtain ⟨g, cp, rfl, hg1, hg2, cg, fg⟩ := Own.last h2 hk
  have hgp : p ≠ g := by intro e; exact h4 (by rw [e]; rfl)
  have hgp' : g ≠ p := fun e => hgp e.symm
  have hL := pack_lt _ (List.getElem_mem (lay_last hk))
  have hq3 : (pack l).length - 1 < (pack l).length := lay_last hk
  have hq4 : 0 < (pack l).length := by omega
  have HP := hid (lay_p2 hk hn h8 (b := b))
  have hk' : ¬ (l.length : Int) % 8 = 0 := by omega
  have h8' : 8 - ((l.length % 8 : Nat) : Int) < (n : Int) := by omega
  obtain ⟨BS, hBS⟩ : ∃ BS, BS = (pack l).set ((pack l).length - 1) ((pack l)[(pack l).length - 1]'(lay_last hk) ||| mask b n >>> (l.length % 8)) := ⟨_, rfl⟩
  have HBS := hid hBS
  rw [← hBS] at HP
  have hbl : BS.length = (pack l).length := by rw [hBS, List.length_set]
  clear hBS
  have HBL := hid hbl
  clear hbl
  obtain ⟨Y, hY⟩ : ∃ Y, Y = mask b n <<< (8 - l.length % 8) % 256 := ⟨_, rfl⟩
  have hS : ((mask b n : Nat) : Int) * 2 ^ (8 - l.length % 8) % 256 = (Y : Int) := by rw [hY]; exact cast_shl8 _ _
  rw [← hY] at HP
  clear hY
  go_enter Tryd.func70, Tryd.ntmps70
  go_wp2
  refine M2.wp_region_mix [19] 19 (by kernel_rfl) (by kernel_rfl) (by decide) ?_
  simp only [List.take_succ_cons, List.take_zero, List.drop_succ_cons, List.drop_zero]
  with_reducible refine M2.mixL_quiet 19 (by kernel_rfl) ?_
  simp only [List.take_succ_cons, List.take_zero, List.drop_succ_cons, List.drop_zero]
  repeat (go_big_quiet_step (fail))
  with_reducible refine wpQuiet_nil ?_
  with_reducible refine M2.mixL_nil ?_
  with_reducible refine M2.mixL_eff (by decide) ?_
  go_wp2_with (fail)
  refine M2.MixQ.mk trivial ?_
  with_reducible refine M2.mixL_nil ?_
  have hown0 : OwnB base (w.setCell ⟨g, (pack l).length - 1, none⟩ (.int .u8 (bits .or .u8 ((pack l)[(pack l).length - 1] : Nat) (((mask b n : Nat) : Int) / 2 ^ (l.length % 8))))) (.slice (some ⟨g, 0, none⟩) (pack l).length cp) BS := by
    have := OwnB.set h2 (lay_last hk) (y := ((pack l)[(pack l).length - 1]'(lay_last hk) ||| mask b n >>> (l.length % 8))) (u := .int .u8 (bits .or .u8 ((pack l)[(pack l).length - 1] : Nat) (((mask b n : Nat) : Int) / 2 ^ (l.length % 8)))) (by rw [cast_shr, or8 _ _ hL (shr_lt (mask_lt _ _))])
    rwa [← HBS.out] at this
  go_wp2_with fail
  refine M2.wp_region_mix [10, 11, 15] 11 (by kernel_rfl) (by kernel_rfl) (by decide) ?_
  simp only [List.take_succ_cons, List.take_zero, List.drop_succ_cons, List.drop_zero]
  with_reducible refine M2.mixL_quiet 10 (by kernel_rfl) ?_
  simp only [List.take_succ_cons, List.take_zero, List.drop_succ_cons, List.drop_zero]
  repeat (go_big_quiet_step (fail))
  with_reducible refine wpQuiet_nil ?_
  with_reducible refine M2.mixL_eff (by decide) ?_
  go_wp2_with ((at_builtin; refine wpList_append' byte_elem bcs_len bcs_one rfl (.tmp 62) (.tmp 67) rfl (base := base) (v := .slice (some ⟨g, 0, none⟩) (pack l).length cp) (ys := BS) (xs := [Y]) (by repeat (first | with_reducible exact hown0 | ((with_reducible refine Own.set_ne ?_ ?_ _); rotate_left; (first | assumption | (focus (simp; done)) | (focus (simp [Value.ownBlock]; done)) | (focus (simp [Value.ownBlock]; omega)))) | ((with_reducible refine Own.in_some ?_ _ ?_); rotate_left; (first | assumption | (focus (simp; done)) | (focus (simp; omega)))) | ((with_reducible refine Own.in_one ?_ _ ?_); rotate_left; (first | assumption | (focus (simp [Value.ownBlock]; done)) | (focus (simp [Value.ownBlock]; omega)))) | ((with_reducible refine Own.chg ?_ (chg_chg _ _ _) ?_); rotate_left; (first | assumption | (focus (simp; done)) | (focus (simp; omega)))) | with_reducible refine Own.over ?_ _ | with_reducible refine Own.alloc ?_ _ | with_reducible refine Own.drew ?_ | exact hown0)) rfl rfl (by simp; omega) (by (repeat with_reducible refine Sl.drew ?_); exact Sl.one_new (y := Y) (by simp; try omega)) (by have := HBL.out; simp only [List.length_append, List.length_singleton]; unfold maxLen; omega) (by have := HBL.out; simp only [List.length_append, List.length_singleton]; omega) ?_; intro v' m hown' hv'; obtain ⟨g2, c', rfl⟩ := Own.form1 hown'))
  refine M2.MixQ.mk (by (try unfold Ov); repeat (first | with_reducible exact ex_over | with_reducible exact over_self _ | with_reducible refine ex_undrew ?_ | with_reducible refine ex_into ?_ _ | with_reducible refine ex_alloc ?_ _ | with_reducible refine ex_drew ?_ | ((with_reducible refine ex_setCell ?_ ?_ _); rotate_left; (first | omega | (focus (simp; done)) | (focus (simp; omega)))) | ((with_reducible refine ex_chg ?_ _ ?_); rotate_left; (first | assumption | (exact Hid.out (by assumption)))) | exact ex_over)) ?_
  with_reducible refine M2.mixL_nil ?_
  with_reducible refine M2.mixL_eff (by decide) ?_
  go_wp2_with ((at_builtin; refine wpList_append' byte_elem bcs_len bcs_one rfl (.tmp 62) (.tmp 67) rfl (base := base) (v := .slice (some ⟨g, 0, none⟩) (pack l).length cp) (ys := BS) (xs := [Y]) (by repeat (first | with_reducible exact hown0 | ((with_reducible refine Own.set_ne ?_ ?_ _); rotate_left; (first | assumption | (focus (simp; done)) | (focus (simp [Value.ownBlock]; done)) | (focus (simp [Value.ownBlock]; omega)))) | ((with_reducible refine Own.in_some ?_ _ ?_); rotate_left; (first | assumption | (focus (simp; done)) | (focus (simp; omega)))) | ((with_reducible refine Own.in_one ?_ _ ?_); rotate_left; (first | assumption | (focus (simp [Value.ownBlock]; done)) | (focus (simp [Value.ownBlock]; omega)))) | ((with_reducible refine Own.chg ?_ (chg_chg _ _ _) ?_); rotate_left; (first | assumption | (focus (simp; done)) | (focus (simp; omega)))) | with_reducible refine Own.over ?_ _ | with_reducible refine Own.alloc ?_ _ | with_reducible refine Own.drew ?_ | exact hown0)) rfl rfl (by simp; omega) (by (repeat with_reducible refine Sl.drew ?_); exact Sl.one_new (y := Y) (by simp; try omega)) (by have := HBL.out; simp only [List.length_append, List.length_singleton]; unfold maxLen; omega) (by have := HBL.out; simp only [List.length_append, List.length_singleton]; omega) ?_; intro v' m hown' hv'; obtain ⟨g2, c', rfl⟩ := Own.form1 hown'))
  refine M2.MixQ.mk trivial ?_
  with_reducible refine M2.mixL_quiet 3 (by kernel_rfl) ?_
  simp only [List.take_succ_cons, List.take_zero, List.drop_succ_cons, List.drop_zero]
  repeat (go_big_quiet_step (fail))
  with_reducible refine wpQuiet_nil ?_
  with_reducible refine M2.mixL_eff (by decide) ?_
  go_wp2_with ((at_builtin; refine wpList_append' byte_elem bcs_len bcs_one rfl (.tmp 62) (.tmp 67) rfl (base := base) (v := .slice (some ⟨g, 0, none⟩) (pack l).length cp) (ys := BS) (xs := [Y]) (by repeat (first | with_reducible exact hown0 | ((with_reducible refine Own.set_ne ?_ ?_ _); rotate_left; (first | assumption | (focus (simp; done)) | (focus (simp [Value.ownBlock]; done)) | (focus (simp [Value.ownBlock]; omega)))) | ((with_reducible refine Own.in_some ?_ _ ?_); rotate_left; (first | assumption | (focus (simp; done)) | (focus (simp; omega)))) | ((with_reducible refine Own.in_one ?_ _ ?_); rotate_left; (first | assumption | (focus (simp [Value.ownBlock]; done)) | (focus (simp [Value.ownBlock]; omega)))) | ((with_reducible refine Own.chg ?_ (chg_chg _ _ _) ?_); rotate_left; (first | assumption | (focus (simp; done)) | (focus (simp; omega)))) | with_reducible refine Own.over ?_ _ | with_reducible refine Own.alloc ?_ _ | with_reducible refine Own.drew ?_ | exact hown0)) rfl rfl (by simp; omega) (by (repeat with_reducible refine Sl.drew ?_); exact Sl.one_new (y := Y) (by simp; try omega)) (by have := HBL.out; simp only [List.length_append, List.length_singleton]; unfold maxLen; omega) (by have := HBL.out; simp only [List.length_append, List.length_singleton]; omega) ?_; intro v' m hown' hv'; obtain ⟨g2, c', rfl⟩ := Own.form1 hown'))
  refine M2.MixQ.mk trivial ?_
  with_reducible refine M2.mixL_nil ?_
  go_wp2_with fail
  go_end0
  have hF : F = [p, g] := H5.out
  subst hF
  have hg : g2 = g ∨ w.heap.size ≤ g2 := by
    rcases hv' with hv' | ⟨g', hv', hle⟩
    · left; simpa [Value.ownBlock] using hv'
    · right; simp [Value.ownBlock] at hv'; simp at hle; omega
  have hgp2 : g2 ≠ p := by
    rintro rfl
    rcases hg with hg | hg
    · exact hgp hg
    · omega
  rw [HP.out] at hown'
  have oe : (Value.slice (some ⟨g, 0, none⟩) (pack l).length cp).ownBlock.toList = [g] := rfl
  rw [oe] at hown' ⊢
  refine WrDid.mk (by repeat (first | with_reducible exact Chg.refl _ _ | (focus (refine ChS.chg ?_; (repeat (first | with_reducible exact ChS.refl _ _ | with_reducible refine ChS.drewl ?_ | with_reducible refine ChS.drewr ?_ | with_reducible refine ChS.over ?_ _ | with_reducible refine chS_chgs ?_ _ | ((with_reducible refine chS_set ?_ _ ?_ _); rotate_left; (first | assumption | (focus (simp; done)) | (focus (simp; assumption)))) | with_reducible refine ChS.alloc ?_ _ | ((with_reducible refine ChS.lit ?_ ?_ _ _); rotate_left; (first | assumption | (focus (simp; done)) | (focus (simp; assumption)))) | with_reducible refine ChS.alloc ?_ _)); done)) | with_reducible refine Chg.alloc ?_ _ | with_reducible refine Chg.drew ?_ | with_reducible refine Chg.on ?_ _ | ((with_reducible refine Chg.setCell ?_ ?_ _); rotate_left; (first | (focus (left; assumption)) | (focus (left; simp; done)) | (focus (right; simp; done)) | (focus (right; simp; omega)) | (focus (left; simp; omega)))) | ((with_reducible refine Chg.in_ ?_ _ ?_); rotate_left; (first | assumption | (focus (intro i hi; left; simp at hi; subst hi; assumption)) | exact fun i hi => Or.inl hi | (focus (intro i hi; left; simp [hi]; done)) | (focus (intro i hi; left; simp at hi ⊢; simp [hi]; done)) | (focus (intro i hi; simp at hi ⊢; simp [hi]; done)) | (focus (intro i hi; simp at hi ⊢; omega)))))) ⟨.slice (some ⟨g2, 0, none⟩) (BS.length + 1) c', ?_, (by repeat (first | with_reducible exact hown' | ((with_reducible refine Own.set_ne ?_ ?_ _); rotate_left; (first | assumption | (focus (simp; done)) | (focus (simp [Value.ownBlock]; done)) | (focus (simp [Value.ownBlock]; omega)))) | ((with_reducible refine Own.in_some ?_ _ ?_); rotate_left; (first | assumption | (focus (simp; done)) | (focus (simp; omega)))) | ((with_reducible refine Own.in_one ?_ _ ?_); rotate_left; (first | assumption | (focus (simp [Value.ownBlock]; done)) | (focus (simp [Value.ownBlock]; omega)))) | ((with_reducible refine Own.chg ?_ (chg_chg _ _ _) ?_); rotate_left; (first | assumption | (focus (simp; done)) | (focus (simp; omega)))) | with_reducible refine Own.over ?_ _ | with_reducible refine Own.alloc ?_ _ | with_reducible refine Own.drew ?_ | exact hown')), h3, by simp [Value.ownBlock]; exact hgp2, rfl⟩ ?_
  · have hB := H1.out
    exact Blk.to (cs' := ([.slice (some ⟨g, 0, none⟩) (pack l).length cp, .int .i64 (l.length : Nat)].set 0 (.slice (some ⟨g2, 0, none⟩) (BS.length + 1) c')).set 1 (.int .i64 ((l.length : Int) + n))) (by repeat (first | with_reducible assumption | with_reducible refine Blk.alloc ?_ _ | with_reducible refine Blk.drew ?_ | with_reducible refine Blk.on ?_ _ | ((with_reducible refine Blk.chg ?_ (chg_chg _ _ _) ?_); rotate_left; (first | assumption | (focus (simp; done)) | (focus (simp; omega)))) | ((with_reducible refine Blk.set ?_ _ _)) | ((with_reducible refine Blk.set_ne ?_ ?_ _); rotate_left; (first | assumption | (focus (simp; done)) | (focus (simp; omega)))))) (by simp [hi_length])
  · intro k hk
    simp [Value.ownBlock] at hk ⊢
    rcases hk with rfl | rfl
    · exact .inl (.inl rfl)
    · rcases hg with hg | hg
      · exact .inl (.inr hg)
      · exact .inr hg
end Go.Proofs.YthljlajdkdgieaaDoor
