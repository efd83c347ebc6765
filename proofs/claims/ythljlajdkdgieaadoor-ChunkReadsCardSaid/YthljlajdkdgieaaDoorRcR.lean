/- Walks: draymanref06.read, All, Ends. -/
import Derived.Test.YthljlajdkdgieaaDoorChkT
import Derived.Test.YthljlajdkdgieaaDoorRcG
namespace Go.Proofs.YthljlajdkdgieaaDoor
set_option linter.unusedVariables false
set_option linter.unusedSimpArgs false
open Go.RowKit
attribute [local go_sem] over_drew chg_drew

/-- All samples, the places, what is known, an error. -/
def ReadPost (w : World) (xs : List Sm) (us : List Nat) (e : En) (er : Nat) (en : Ending) (w' : World) : Prop :=
  ∃ v u, en = .returned (.tuple #[v, u, e.v, .int .i64 (er : Nat)]) ∧ (∃ x, w' = over w x) ∧ OwnM w.heap.size w' v xs ∧ OwnI w.heap.size w' u us

/-- Between two rounds. -/
structure RdI (w : World) (p1 p4 p9 : Nat) (a : Option Addr) (c : Nat) (L : List Bool) (xs : List Sm) (k : Nat) (l u : Value) (W : World) : Prop where
  ov : ∃ e, W = over w e
  b1 : Blk W p1 [.slice a (pack L).length c, .int .i64 (L.length : Nat)] 29
  b4 : Blk W p4 En.zero.cs 42
  b9 : Blk W p9 (knowC En.zero (xs.take k)).cs 42
  ol : OwnM (p9 + 1) W l (xs.take k)
  ou : OwnI (p9 + 1) W u (endsK xs k)
  ne : ∀ g, l.ownBlock = some g → u.ownBlock ≠ some g

theorem chg7 (W : World) (p : Nat) {x0 x1 x2 x3 x4 x5 x6 : Value} : Chg [p] W (((((((W.setCell ⟨p, 0, none⟩ x0).setCell ⟨p, 1, none⟩ x1).setCell ⟨p, 2, none⟩ x2).setCell ⟨p, 3, none⟩ x3).setCell ⟨p, 4, none⟩ x4).setCell ⟨p, 5, none⟩ x5).setCell ⟨p, 6, none⟩ x6) :=
  Chg.setCell (Chg.setCell (Chg.setCell (Chg.setCell (Chg.setCell (Chg.setCell (Chg.setCell (Chg.refl _ _) (.inl (by simp)) _) (.inl (by simp)) _) (.inl (by simp)) _) (.inl (by simp)) _) (.inl (by simp)) _) (.inl (by simp)) _) (.inl (by simp)) _


set_option maxRecDepth 100000 in
set_option maxHeartbeats 8000000 in
theorem rread_any (L : List Bool) (hl : L.length ≤ 700000) (a : Option Addr) (c : Nat) (xs : List Sm) (er : Nat) (hr : RunC L xs er) (w : World) (hb : SlB w a c (pack L)) :
    Calls Tryd.prog 69 #[bv a (pack L).length c L.length] w (ReadPost w (if er = 0 then xs else []) (if er = 0 then endsK xs xs.length else []) (if er = 0 then knowC En.zero xs else En.zero) er) := by
  obtain ⟨RX, hRX⟩ : ∃ RX, (if er = 0 then xs else []) = RX := ⟨_, rfl⟩
  obtain ⟨RU, hRU⟩ : ∃ RU, (if er = 0 then endsK xs xs.length else []) = RU := ⟨_, rfl⟩
  obtain ⟨RE, hRE⟩ : ∃ RE, (if er = 0 then knowC En.zero xs else En.zero) = RE := ⟨_, rfl⟩
  rw [hRX, hRU, hRE]
  have HRX := hid hRX
  have HRU := hid hRU
  have HRE := hid hRE
  clear hRX hRU hRE
  have HS := hid (fun W h => rsound_any (pack L) pack_lt (pack_len_le (by omega)) L.length (by omega) a c W h)
  rw [sound_pack] at HS
  have HSl : Hid (∀ W, (∃ e, W = over w e) → SlB W a c (pack L)) := hid (fun W h => Sl.ov hb h)
  have HB := hid hb
  have HR := hid hr
  have HLen := hid hr.rd.len
  clear hb hr
  go_enter Tryd.func69, Tryd.ntmps69
  go_wp2_with (go_at_call 46; (with_reducible refine (HS.out _ (HSl.out _ (by (try unfold Ov); repeat (first | with_reducible exact ex_over | with_reducible exact over_self _ | with_reducible refine ex_undrew ?_ | with_reducible refine ex_into ?_ _ | with_reducible refine ex_alloc ?_ _ | with_reducible refine ex_drew ?_ | ((with_reducible refine ex_setCell ?_ ?_ _); rotate_left; (first | omega | (focus (simp; done)) | (focus (simp; omega)))) | ((with_reducible refine ex_chg ?_ _ ?_); rotate_left; (first | assumption | (exact Hid.out (by assumption)))) | exact ex_over)))).mono ?_); rintro _ _ ⟨⟨e1, rfl⟩, rfl⟩)
  refine gen_w ?_
  intro W0 hW0
  have O0 : Hid (∃ e, W0 = over w e) := hid (by rw [hW0]; exact (by (try unfold Ov); repeat (first | with_reducible exact ex_over | with_reducible exact over_self _ | with_reducible refine ex_undrew ?_ | with_reducible refine ex_into ?_ _ | with_reducible refine ex_alloc ?_ _ | with_reducible refine ex_drew ?_ | ((with_reducible refine ex_setCell ?_ ?_ _); rotate_left; (first | omega | (focus (simp; done)) | (focus (simp; omega)))) | ((with_reducible refine ex_chg ?_ _ ?_); rotate_left; (first | assumption | (exact Hid.out (by assumption)))) | exact ex_over)))
  have A1 : Hid (Blk W0 w.heap.size [.slice a (pack L).length c, .int .i64 (L.length : Nat)] 29) := hid (by rw [hW0]; exact Blk.alloc (Blk.on (Blk.alloc (Blk.new' (by simp)) _) _) _)
  have A4 : Hid (Blk W0 (w.heap.size + 1) En.zero.cs 42) := hid (by rw [hW0]; exact Blk.alloc (Blk.on (Blk.new' (by simp)) _) _)
  have A9 : Hid (Blk W0 (w.heap.size + 1 + 1 + e1.heap.size) En.zero.cs 42) := hid (by rw [hW0]; exact (by repeat (first | exact Blk.new' (by simp; done) | exact Blk.new' rfl | with_reducible assumption | with_reducible refine Blk.alloc ?_ _ | with_reducible refine Blk.drew ?_ | with_reducible refine Blk.on ?_ _ | ((with_reducible refine Blk.chg ?_ (chg_chg _ _ _) ?_); rotate_left; (first | assumption | (focus (simp; done)) | (focus (simp; omega)))))))
  clear hW0
  obtain ⟨p1, hp1⟩ : ∃ p, p = w.heap.size := ⟨_, rfl⟩
  obtain ⟨p4, hp4⟩ : ∃ p, p = w.heap.size + 1 := ⟨_, rfl⟩
  obtain ⟨p9, hp9⟩ : ∃ p, p = w.heap.size + 1 + 1 + e1.heap.size := ⟨_, rfl⟩
  rw [← hp9] at A9 ⊢
  rw [← hp4] at A4 ⊢
  rw [← hp1] at A1 ⊢
  have n14 : ¬ p1 = p4 := by omega
  have n41 : ¬ p4 = p1 := by omega
  have n19 : ¬ p1 = p9 := by omega
  have n91 : ¬ p9 = p1 := by omega
  have n49 : ¬ p4 = p9 := by omega
  have n94 : ¬ p9 = p4 := by omega
  have hb9 : w.heap.size ≤ p9 + 1 := by omega
  have hw1 : w.heap.size ≤ p1 := by omega
  have hw4 : w.heap.size ≤ p4 := by omega
  have hw9 : w.heap.size ≤ p9 := by omega
  have h14 : p1 < p4 := by omega
  have h49 : p4 < p9 := by omega
  clear hp1 hp4 hp9 HS
  go_loopw [7, 8, 10] (fun l u i wr => ∃ (k : Nat) (l' u' : Value), k ≤ xs.length ∧ l' = l ∧ u' = u ∧ i = .int .i64 ((bitsC En.zero (xs.take k)).length : Nat) ∧ RdI w p1 p4 p9 a c L xs k l' u' wr) (fun _ _ i _ => L.length - (intOf i).toNat)
  case atStart => exact ⟨0, _, _, Nat.zero_le _, rfl, rfl, rfl, ⟨O0.out, A1.out, A4.out, A9.out, Own.nil _, Own.nil _, fun g h => by cases h⟩⟩
  case round =>
    obtain ⟨k, l, u, hk, rfl, rfl, rfl, ⟨hov, hb1, hb4, hb9', hol, hou, hne⟩⟩ := hrel
    clear O0 A1 A4 A9
    have O0 := hid hov
    have A1 := hid hb1
    have A4 := hid hb4
    have A9 := hid hb9'
    have AL := hid hol
    have AU := hid hou
    have NE := hid hne
    clear hov hb1 hb4 hb9' hol hou hne
    have hfr := HR.out.front hl k
    by_cases hlt : k < xs.length
    · have hat := HR.out.at_ hl hlt
      have hll := HR.out.lt hl hlt
      have hxt := takeC_get hlt
      have hxe := endsK_snoc xs k
      obtain ⟨t', ht'⟩ : ∃ t', knowC En.zero (xs.take (k + 1)) = t' := ⟨_, rfl⟩
      obtain ⟨n', hn'⟩ : ∃ n', (bitsC En.zero (xs.take (k + 1))).length = n' := ⟨_, rfl⟩
      rw [hn'] at hxe
      rw [ht', hn'] at hat
      rw [hn'] at hll
      have HT' := hid ht'
      have HN' := hid hn'
      have HXE := hid hxe
      generalize knowC En.zero (xs.take k) = t at *
      generalize (bitsC En.zero (xs.take k)).length = nk at *
      have HG := hid (fun W h1 => rcget_yes L hl a c (nk : Nat) (by unfold i64ok; omega) t hfr.2.1 hfr.1 W h1)
      rw [hat] at HG
      have HG' : Hid (∀ W, SlB W a c (pack L) → Calls Tryd.prog 35 #[bv a (pack L).length c L.length, .int .i64 (nk : Nat), t.v] W (Ret W (.tuple #[smV xs[k].t xs[k].v, .int .i64 (n' : Nat), t'.v, .int .i64 0]))) := HG
      have HXT := hid hxt
      generalize xs[k] = x at *
      have hkl : k ≤ 700000 := by have := HLen.out; omega
      have hE : (endsK xs k).length ≤ 700000 := by rw [endsK_len]; exact hkl
      have hX : (xs.take k).length ≤ 700000 := by rw [List.length_take]; omega
      generalize endsK xs k = US at *
      generalize xs.take k = XS at *
      clear HG hat ht' hn' hxt hxe hfr
      have r1a := A1.out.cell 0 rfl
      have r1b := A1.out.cell 1 rfl
      have f1a := A1.out.free 0
      have f1b := A1.out.free 1
      have l1 := A1.out.lt
      have r40 := A4.out.cell 0 rfl
      have r41 := A4.out.cell 1 rfl
      have r42 := A4.out.cell 2 rfl
      have r43 := A4.out.cell 3 rfl
      have r44 := A4.out.cell 4 rfl
      have r45 := A4.out.cell 5 rfl
      have r46 := A4.out.cell 6 rfl
      have g40 := A4.out.free 0
      have g41 := A4.out.free 1
      have g42 := A4.out.free 2
      have g43 := A4.out.free 3
      have g44 := A4.out.free 4
      have g45 := A4.out.free 5
      have g46 := A4.out.free 6
      have l4 := A4.out.lt
      have r90 := A9.out.cell 0 rfl
      have r91 := A9.out.cell 1 rfl
      have r92 := A9.out.cell 2 rfl
      have r93 := A9.out.cell 3 rfl
      have r94 := A9.out.cell 4 rfl
      have r95 := A9.out.cell 5 rfl
      have r96 := A9.out.cell 6 rfl
      have g90 := A9.out.free 0
      have g91 := A9.out.free 1
      have g92 := A9.out.free 2
      have g93 := A9.out.free 3
      have g94 := A9.out.free 4
      have g95 := A9.out.free 5
      have g96 := A9.out.free 6
      have l9 := A9.out.lt
      go_wp2_with (first
        | (go_at_call 35; (with_reducible refine (HG'.out _ (HSl.out _ (by (try unfold Ov); repeat (first | with_reducible exact O0.out | with_reducible exact O0.out | with_reducible refine ex_undrew ?_ | with_reducible refine ex_into ?_ _ | with_reducible refine ex_alloc ?_ _ | with_reducible refine ex_drew ?_ | ((with_reducible refine ex_setCell ?_ ?_ _); rotate_left; (first | omega | (focus (simp; done)) | (focus (simp; omega)))) | ((with_reducible refine ex_chg ?_ _ ?_); rotate_left; (first | assumption | (exact Hid.out (by assumption)))) | exact ex_over)))).mono ?_); rintro _ _ ⟨⟨e3, rfl⟩, rfl⟩)
        | (
        at_builtin
        have AL0 := AL.out
        have NE0 := NE.out
        refine gen_w ?_
        intro W7 hW7
        have O7 : Hid (∃ e, W7 = over w e) := hid (by rw [hW7]; exact (by (try unfold Ov); repeat (first | with_reducible exact O0.out | with_reducible exact O0.out | with_reducible refine ex_undrew ?_ | with_reducible refine ex_into ?_ _ | with_reducible refine ex_alloc ?_ _ | with_reducible refine ex_drew ?_ | ((with_reducible refine ex_setCell ?_ ?_ _); rotate_left; (first | omega | (focus (simp; done)) | (focus (simp; omega)))) | ((with_reducible refine ex_chg ?_ _ ?_); rotate_left; (first | assumption | (exact Hid.out (by assumption)))) | exact ex_over)))
        have C1 : Hid (Blk W7 p1 [.slice a (pack L).length c, .int .i64 (L.length : Nat)] 29) := hid (by rw [hW7]; exact (by repeat (first | with_reducible exact A1.out | with_reducible refine Blk.alloc ?_ _ | with_reducible refine Blk.drew ?_ | with_reducible refine Blk.on ?_ _ | ((with_reducible refine Blk.chg ?_ (chg_chg _ _ _) ?_); rotate_left; (first | assumption | (focus (simp; done)) | (focus (simp; omega)))) | with_reducible refine Blk.set ?_ _ _ | ((with_reducible refine Blk.set_ne ?_ ?_ _); rotate_left; (first | assumption | (focus (simp; done)) | (focus (simp; omega)))))))
        have C4 : Hid (Blk W7 p4 En.zero.cs 42) := hid (by rw [hW7]; exact (by repeat (first | with_reducible exact A4.out | with_reducible refine Blk.alloc ?_ _ | with_reducible refine Blk.drew ?_ | with_reducible refine Blk.on ?_ _ | ((with_reducible refine Blk.chg ?_ (chg_chg _ _ _) ?_); rotate_left; (first | assumption | (focus (simp; done)) | (focus (simp; omega)))) | with_reducible refine Blk.set ?_ _ _ | ((with_reducible refine Blk.set_ne ?_ ?_ _); rotate_left; (first | assumption | (focus (simp; done)) | (focus (simp; omega)))))))
        have C9 : Hid (Blk W7 p9 t.cs 42) := hid (by rw [hW7]; exact (by repeat (first | with_reducible exact A9.out | with_reducible refine Blk.alloc ?_ _ | with_reducible refine Blk.drew ?_ | with_reducible refine Blk.on ?_ _ | ((with_reducible refine Blk.chg ?_ (chg_chg _ _ _) ?_); rotate_left; (first | assumption | (focus (simp; done)) | (focus (simp; omega)))) | with_reducible refine Blk.set ?_ _ _ | ((with_reducible refine Blk.set_ne ?_ ?_ _); rotate_left; (first | assumption | (focus (simp; done)) | (focus (simp; omega)))))))
        have C13 : Hid (Blk W7 (wr.heap.size + e3.heap.size + 1) t'.cs 42) := hid (by rw [hW7]; exact (by repeat (first | exact Blk.new' (by simp; done) | exact Blk.new' rfl | with_reducible assumption | with_reducible refine Blk.alloc ?_ _ | with_reducible refine Blk.drew ?_ | with_reducible refine Blk.on ?_ _ | ((with_reducible refine Blk.chg ?_ (chg_chg _ _ _) ?_); rotate_left; (first | assumption | (focus (simp; done)) | (focus (simp; omega)))))))
        have CL : Hid (OwnM (p9 + 1) W7 l XS) := hid (by rw [hW7]; exact (by repeat (first | with_reducible exact AL0 | ((with_reducible refine Own.set_ne ?_ ?_ _); rotate_left; (first | assumption | (focus (simp; done)) | (focus (simp [Value.ownBlock]; done)) | (focus (simp [Value.ownBlock]; omega)))) | ((with_reducible refine Own.in_some ?_ _ ?_); rotate_left; (first | assumption | (focus (simp; done)) | (focus (simp; omega)))) | ((with_reducible refine Own.in_one ?_ _ ?_); rotate_left; (first | assumption | (focus (simp [Value.ownBlock]; done)) | (focus (simp [Value.ownBlock]; omega)))) | ((with_reducible refine Own.chg ?_ (chg_chg _ _ _) ?_); rotate_left; (first | assumption | (focus (simp; done)) | (focus (simp; omega)))) | with_reducible refine Own.over ?_ _ | with_reducible refine Own.alloc ?_ _ | with_reducible refine Own.drew ?_ | exact AL0)))
        have CU : Hid (OwnI (p9 + 1) W7 u US) := hid (by rw [hW7]; exact (by repeat (first | with_reducible exact AU.out | ((with_reducible refine Own.set_ne ?_ ?_ _); rotate_left; (first | assumption | (focus (simp; done)) | (focus (simp [Value.ownBlock]; done)) | (focus (simp [Value.ownBlock]; omega)))) | ((with_reducible refine Own.in_some ?_ _ ?_); rotate_left; (first | assumption | (focus (simp; done)) | (focus (simp; omega)))) | ((with_reducible refine Own.in_one ?_ _ ?_); rotate_left; (first | assumption | (focus (simp [Value.ownBlock]; done)) | (focus (simp [Value.ownBlock]; omega)))) | ((with_reducible refine Own.chg ?_ (chg_chg _ _ _) ?_); rotate_left; (first | assumption | (focus (simp; done)) | (focus (simp; omega)))) | with_reducible refine Own.over ?_ _ | with_reducible refine Own.alloc ?_ _ | with_reducible refine Own.drew ?_ | exact AU.out)))
        have S39 : Hid (Sl 2 Sm.cs W7 (some ⟨wr.heap.size + e3.heap.size + 1 + 1, 0, none⟩) 1 [x]) := hid (by rw [hW7]; exact (by (repeat with_reducible refine Sl.drew ?_); exact Sl.one_new (y := x) (by simp; try omega)))
        have hwW : wr.heap.size + e3.heap.size + 1 < W7.heap.size := C13.out.lt
        clear hW7
        obtain ⟨p13, hp13⟩ : ∃ p, p = wr.heap.size + e3.heap.size + 1 := ⟨_, rfl⟩
        obtain ⟨p39, hp39⟩ : ∃ p, p = wr.heap.size + e3.heap.size + 1 + 1 := ⟨_, rfl⟩
        rw [← hp39] at S39 ⊢
        rw [← hp13] at C13 hwW ⊢
        have m13 : wr.heap.size ≤ p13 := by omega
        clear hp13 hp39
        clear r1a r1b f1a f1b l1 r40 r41 r42 r43 r44 r45 r46 g40 g41 g42 g43 g44 g45 g46 l4 r90 r91 r92 r93 r94 r95 r96 g90 g91 g92 g93 g94 g95 g96 l9
        have l9 := C9.out.lt
        refine wpList_append' sample_elem Sm.cs_len Sm.cs_one rfl (.tmp 37) (.tmp 39) rfl (base := p9 + 1) (v := l) (ys := XS) (xs := [x]) CL.out rfl rfl (by omega) S39.out (by simp only [List.length_append, List.length_singleton]; unfold maxLen; omega) (by simp only [List.length_append, List.length_singleton]; omega) ?_
        intro v' m hown' hv'
        refine gen_w ?_
        intro W8 hW8
        have D8 : Hid (Chg l.ownBlock.toList W7 W8) := hid (by rw [hW8]; exact chg_chg _ _ _)
        have DL : Hid (OwnM (p9 + 1) W8 v' (XS ++ [x])) := hid (by rw [hW8]; exact hown')
        have HV : Hid (v'.ownBlock = l.ownBlock ∨ ∃ g, v'.ownBlock = some g ∧ W7.heap.size ≤ g) := hid hv'
        have hlo : ∀ g ∈ l.ownBlock.toList, p9 + 1 ≤ g ∧ g < wr.heap.size := fun g hg => Own.lt AL0 (by simpa using hg)
        have huo : ∀ g, u.ownBlock = some g → p9 + 1 ≤ g ∧ g < wr.heap.size := fun g hg => Own.lt AU.out hg
        have D1 := hid (Blk.chg C1.out D8.out (fun hm => by have := hlo _ hm; omega))
        have D4 := hid (Blk.chg C4.out D8.out (fun hm => by have := hlo _ hm; omega))
        have D9 := hid (Blk.chg C9.out D8.out (fun hm => by have := hlo _ hm; omega))
        have D13 := hid (Blk.chg C13.out D8.out (fun hm => by have := hlo _ hm; omega))
        have DU := hid (Own.chg CU.out D8.out (fun g hg hm => NE0 g (by simpa using hm) hg))
        have OV8 : Hid (∃ e, W8 = over w e) := hid (Chg.ov O7.out D8.out (fun g hg => by have := hlo _ hg; omega))
        have hw78 : W7.heap.size ≤ W8.heap.size := D8.out.size
        have HLO := hid hlo
        have HUO := hid huo
        have HNE := hid NE0
        clear hW8 hown' hv' hlo huo AL AU NE AL0 NE0 CL CU S39 C1 C4 C9 C13 O7 O0 A1 A4 A9)
        | (
        at_builtin
        have HV0 := HV.out
        have hwp8 : p9 + 1 ≤ W8.heap.size := by omega
        refine wpList_append' int_elem ics_len ics_one rfl (.tmp 41) (.tmp 43) rfl (base := p9 + 1) (v := u) (ys := US) (xs := [n']) (Own.alloc DU.out _) rfl rfl (by first | exact Nat.le_refl _ | rfl | omega | (simp; done) | (simp; omega)) (by (repeat with_reducible refine Sl.drew ?_); exact Sl.one_new (y := n') (by simp; try omega)) (by simp only [List.length_append, List.length_singleton]; unfold maxLen; omega) (by simp only [List.length_append, List.length_singleton]; omega) ?_
        intro u' m2 hown2 hu2
        refine gen_w ?_
        intro W9 hW9
        have E9 : Hid (Chg u.ownBlock.toList W8 W9) := hid (by rw [hW9]; exact Chg.trans (Chg.alloc (Chg.refl _ _) _) (chg_chg _ _ _))
        have EU : Hid (OwnI (p9 + 1) W9 u' (US ++ [n'])) := hid (by rw [hW9]; exact hown2)
        have HU : Hid (u'.ownBlock = u.ownBlock ∨ ∃ g, u'.ownBlock = some g ∧ W8.heap.size ≤ g) := hid (hu2.imp id (fun ⟨g, h1, h2⟩ => ⟨g, h1, by simp at h2; omega⟩))
        have hul : ∀ g ∈ u.ownBlock.toList, p9 + 1 ≤ g ∧ g < wr.heap.size := fun g hg => HUO.out g (by simpa using hg)
        have E1 := hid (Blk.chg D1.out E9.out (fun hm => by have := hul _ hm; omega))
        have E4 := hid (Blk.chg D4.out E9.out (fun hm => by have := hul _ hm; omega))
        have F9 := hid (Blk.chg D9.out E9.out (fun hm => by have := hul _ hm; omega))
        have E13 := hid (Blk.chg D13.out E9.out (fun hm => by have := hul _ hm; omega))
        have hvn : ∀ g, v'.ownBlock = some g → u.ownBlock ≠ some g := by
          intro g hg hg'
          rcases HV0 with h | ⟨g2, h, h2⟩
          · exact HNE.out g (by rw [← h]; exact hg) hg'
          · rw [h] at hg
            have h4 : g2 = g := Option.some.inj hg
            have h5 := HUO.out g hg'
            omega
        have EL := hid (Own.chg DL.out E9.out (fun g hg hm => hvn g hg (by simpa using hm)))
        have EN : Hid (∀ g, v'.ownBlock = some g → u'.ownBlock ≠ some g) := hid (fun g hg hg' => by
          rcases HU.out with h | ⟨g2, h, h2⟩
          · exact hvn g hg (by rw [← h]; exact hg')
          · rw [h] at hg'
            have h4 : g2 = g := Option.some.inj hg'
            have h5 := (Own.lt DL.out hg).2
            omega)
        have OV9 : Hid (∃ e, W9 = over w e) := hid (Chg.ov OV8.out E9.out (fun g hg => by have := hul _ hg; omega))
        clear hW9 hown2 hu2 hul hvn HV HV0 HU HNE HUO HLO OV8 D1 D4 D9 D13 DU DL D8
        have r90 := F9.out.cell 0 rfl
        have r91 := F9.out.cell 1 rfl
        have r92 := F9.out.cell 2 rfl
        have r93 := F9.out.cell 3 rfl
        have r94 := F9.out.cell 4 rfl
        have r95 := F9.out.cell 5 rfl
        have r96 := F9.out.cell 6 rfl
        have g90 := F9.out.free 0
        have g91 := F9.out.free 1
        have g92 := F9.out.free 2
        have g93 := F9.out.free 3
        have g94 := F9.out.free 4
        have g95 := F9.out.free 5
        have g96 := F9.out.free 6
        have l9 := F9.out.lt
        have r130 := E13.out.cell 0 rfl
        have r131 := E13.out.cell 1 rfl
        have r132 := E13.out.cell 2 rfl
        have r133 := E13.out.cell 3 rfl
        have r134 := E13.out.cell 4 rfl
        have r135 := E13.out.cell 5 rfl
        have r136 := E13.out.cell 6 rfl
        have l13 := E13.out.lt))
      go_roundw
      case rel =>
        refine ⟨k + 1, _, _, by omega, rfl, rfl, by rw [HN'.out], ⟨?_, ?_, ?_, ?_, ?_, ?_, ?_⟩⟩
        · exact Chg.ov OV9.out (chg7 W9 p9) (by simp; omega)
        · exact Blk.chg E1.out (chg7 W9 p9) (by simp; omega)
        · exact Blk.chg E4.out (chg7 W9 p9) (by simp; omega)
        · rw [HT'.out]; exact ((((((F9.out.set 0 _).set 1 _).set 2 _).set 3 _).set 4 _).set 5 _).set 6 _
        · rw [HXT.out]; exact Own.chg EL.out (chg7 W9 p9) (fun g hg => by have := (Own.lt EL.out hg).1; simp; omega)
        · rw [HXE.out]; exact Own.chg EU.out (chg7 W9 p9) (fun g hg => by have := (Own.lt EU.out hg).1; simp; omega)
        · exact EN.out
      case measure => simp [intOf]; omega
    · obtain rfl : k = xs.length := by omega
      rw [List.take_length] at *
      have hfin := HR.out.fin
      have HX := HRX.out
      have HU := HRU.out
      have HE := HRE.out
      rcases hfin with ⟨rfl, hfin⟩ | ⟨rfl, hlt2, hfin⟩
      · rw [if_pos rfl] at HX HU HE
        subst HX HU HE
        rw [hfin]
        clear hfin hfr HRX HRU HRE HR
        generalize knowC En.zero xs = t at *
        generalize endsK xs xs.length = US at *
        have r1a := A1.out.cell 0 rfl
        have r1b := A1.out.cell 1 rfl
        have f1a := A1.out.free 0
        have f1b := A1.out.free 1
        have l1 := A1.out.lt
        have r40 := A4.out.cell 0 rfl
        have r41 := A4.out.cell 1 rfl
        have r42 := A4.out.cell 2 rfl
        have r43 := A4.out.cell 3 rfl
        have r44 := A4.out.cell 4 rfl
        have r45 := A4.out.cell 5 rfl
        have r46 := A4.out.cell 6 rfl
        have g40 := A4.out.free 0
        have g41 := A4.out.free 1
        have g42 := A4.out.free 2
        have g43 := A4.out.free 3
        have g44 := A4.out.free 4
        have g45 := A4.out.free 5
        have g46 := A4.out.free 6
        have l4 := A4.out.lt
        have r90 := A9.out.cell 0 rfl
        have r91 := A9.out.cell 1 rfl
        have r92 := A9.out.cell 2 rfl
        have r93 := A9.out.cell 3 rfl
        have r94 := A9.out.cell 4 rfl
        have r95 := A9.out.cell 5 rfl
        have r96 := A9.out.cell 6 rfl
        have g90 := A9.out.free 0
        have g91 := A9.out.free 1
        have g92 := A9.out.free 2
        have g93 := A9.out.free 3
        have g94 := A9.out.free 4
        have g95 := A9.out.free 5
        have g96 := A9.out.free 6
        have l9 := A9.out.lt
        obtain ⟨F, hF⟩ : ∃ F, F = [p4] := ⟨_, rfl⟩
        have i4 : p4 ∈ F := by rw [hF]; simp
        have i9 : p9 ∉ F := by rw [hF]; simp; omega
        have i1 : p1 ∉ F := by rw [hF]; simp; omega
        clear hF
        go_wp2_with fail
        refine M2.wp_region_mixZ (fun w' => ∃ m : Mut, w' = chg F _ m) [5] 7 (by kernel_rfl) (by kernel_rfl) (by decide) (chg_of (Chg.refl _ _)) ?_
        simp only [List.take_succ_cons, List.take_zero, List.drop_succ_cons, List.drop_zero]
        with_reducible refine M2.mixL_quiet 5 (by kernel_rfl) ?_
        simp only [List.take_succ_cons, List.take_zero, List.drop_succ_cons, List.drop_zero]
        repeat (go_big_quiet_step (fail))
        with_reducible refine wpQuiet_nil ?_
        with_reducible refine M2.mixL_eff (by decide) ?_
        go_wp2_with (fail)
        refine M2.MixQ.mk (chg_of (by repeat (first | with_reducible exact Chg.refl _ _ | (focus (refine ChS.chg ?_; (repeat (first | with_reducible exact ChS.refl _ _ | with_reducible refine ChS.drewl ?_ | with_reducible refine ChS.drewr ?_ | with_reducible refine ChS.over ?_ _ | with_reducible refine chS_chgs ?_ _ | ((with_reducible refine chS_set ?_ _ ?_ _); rotate_left; (first | assumption | (focus (simp; done)) | (focus (simp; assumption)))) | with_reducible refine ChS.alloc ?_ _ | ((with_reducible refine ChS.lit ?_ ?_ _ _); rotate_left; (first | assumption | (focus (simp; done)) | (focus (simp; assumption)))) | with_reducible refine ChS.alloc ?_ _)); done)) | with_reducible refine Chg.alloc ?_ _ | with_reducible refine Chg.drew ?_ | with_reducible refine Chg.on ?_ _ | ((with_reducible refine Chg.setCell ?_ ?_ _); rotate_left; (first | (focus (left; assumption)) | (focus (left; simp; done)) | (focus (right; simp; done)) | (focus (right; simp; omega)) | (focus (left; simp; omega)))) | ((with_reducible refine Chg.in_ ?_ _ ?_); rotate_left; (first | assumption | (focus (intro i hi; left; simp at hi; subst hi; assumption)) | exact fun i hi => Or.inl hi | (focus (intro i hi; left; simp [hi]; done)) | (focus (intro i hi; left; simp at hi ⊢; simp [hi]; done)) | (focus (intro i hi; simp at hi ⊢; simp [hi]; done)) | (focus (intro i hi; simp at hi ⊢; omega))))))) ?_
        with_reducible refine M2.mixL_quiet 1 (by kernel_rfl) ?_
        simp only [List.take_succ_cons, List.take_zero, List.drop_succ_cons, List.drop_zero]
        repeat (go_big_quiet_step (fail))
        with_reducible refine wpQuiet_nil ?_
        with_reducible refine M2.mixL_nil ?_
        with_reducible refine M2.mixL_nil ?_
        go_wp2_with fail
        (try simp only [Exit.inBlock, Exit.then])
        refine bodyPost_ret (v := ?rv120) ?rh120 rfl ?rp120
        case rh120 => (simp only [results, show Tryd.f69.results = #[.tmp 2, .tmp 3, .cell 4 42, .tmp 5] from rfl]; go_simp; rfl)
        exact ⟨_, _, rfl, Chg.ov O0.out (Chg.drew (chg7 wr p4)) (by simp; omega), Own.mono (Own.drew (Own.chg AL.out (chg7 wr p4) (fun g hg => by have := (Own.lt AL.out hg).1; simp; omega))) (by omega), Own.mono (Own.drew (Own.chg AU.out (chg7 wr p4) (fun g hg => by have := (Own.lt AU.out hg).1; simp; omega))) (by omega)⟩
      · rw [if_neg (by decide)] at HX HU HE
        subst HX HU HE
        have HG := hid (fun W h1 => rcget_yes L hl a c ((bitsC En.zero xs).length : Nat) (by unfold i64ok; omega) (knowC En.zero xs) hfr.2.1 hfr.1 W h1)
        rw [hfin] at HG
        clear hfin hfr HRX HRU HRE HR
        generalize knowC En.zero xs = t at *
        generalize (bitsC En.zero xs).length = nk at *
        have HG' : Hid (∀ W, SlB W a c (pack L) → Calls Tryd.prog 35 #[bv a (pack L).length c L.length, .int .i64 (nk : Nat), t.v] W (Ret W (.tuple #[.agg #[.int .i64 0, .int .u64 0], .int .i64 0, .agg #[.int .i64 0, .int .i64 0, .int .i64 0, .bool false, .int .u64 0, .int .u8 0, .int .u8 0], .int .i64 61]))) := HG
        clear HG
        have r1a := A1.out.cell 0 rfl
        have r1b := A1.out.cell 1 rfl
        have f1a := A1.out.free 0
        have f1b := A1.out.free 1
        have l1 := A1.out.lt
        have r40 := A4.out.cell 0 rfl
        have r41 := A4.out.cell 1 rfl
        have r42 := A4.out.cell 2 rfl
        have r43 := A4.out.cell 3 rfl
        have r44 := A4.out.cell 4 rfl
        have r45 := A4.out.cell 5 rfl
        have r46 := A4.out.cell 6 rfl
        have g40 := A4.out.free 0
        have g41 := A4.out.free 1
        have g42 := A4.out.free 2
        have g43 := A4.out.free 3
        have g44 := A4.out.free 4
        have g45 := A4.out.free 5
        have g46 := A4.out.free 6
        have l4 := A4.out.lt
        have r90 := A9.out.cell 0 rfl
        have r91 := A9.out.cell 1 rfl
        have r92 := A9.out.cell 2 rfl
        have r93 := A9.out.cell 3 rfl
        have r94 := A9.out.cell 4 rfl
        have r95 := A9.out.cell 5 rfl
        have r96 := A9.out.cell 6 rfl
        have g90 := A9.out.free 0
        have g91 := A9.out.free 1
        have g92 := A9.out.free 2
        have g93 := A9.out.free 3
        have g94 := A9.out.free 4
        have g95 := A9.out.free 5
        have g96 := A9.out.free 6
        have l9 := A9.out.lt
        go_wp2_with (go_at_call 35; (with_reducible refine (HG'.out _ (HSl.out _ (by (try unfold Ov); repeat (first | with_reducible exact O0.out | with_reducible exact O0.out | with_reducible refine ex_undrew ?_ | with_reducible refine ex_into ?_ _ | with_reducible refine ex_alloc ?_ _ | with_reducible refine ex_drew ?_ | ((with_reducible refine ex_setCell ?_ ?_ _); rotate_left; (first | omega | (focus (simp; done)) | (focus (simp; omega)))) | ((with_reducible refine ex_chg ?_ _ ?_); rotate_left; (first | assumption | (exact Hid.out (by assumption)))) | exact ex_over)))).mono ?_); rintro _ _ ⟨⟨e3, rfl⟩, rfl⟩)
        (try simp only [Exit.inBlock, Exit.then])
        refine bodyPost_ret (v := ?rv121) ?rh121 rfl ?rp121
        case rh121 => (simp only [results, show Tryd.f69.results = #[.tmp 2, .tmp 3, .cell 4 42, .tmp 5] from rfl]; go_simp; rfl)
        exact ⟨_, _, rfl, (by (try unfold Ov); repeat (first | with_reducible exact O0.out | with_reducible exact O0.out | with_reducible refine ex_undrew ?_ | with_reducible refine ex_into ?_ _ | with_reducible refine ex_alloc ?_ _ | with_reducible refine ex_drew ?_ | ((with_reducible refine ex_setCell ?_ ?_ _); rotate_left; (first | omega | (focus (simp; done)) | (focus (simp; omega)))) | ((with_reducible refine ex_chg ?_ _ ?_); rotate_left; (first | assumption | (exact Hid.out (by assumption)))) | exact ex_over)), Own.nil _, Own.nil _⟩
end Go.Proofs.YthljlajdkdgieaaDoor
