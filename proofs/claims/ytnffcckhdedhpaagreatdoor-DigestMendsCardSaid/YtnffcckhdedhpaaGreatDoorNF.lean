import Derived.Test.YtnffcckhdedhpaaGreatDoorHB
namespace Go.Proofs.YtnffcckhdedhpaaGreatDoor
set_option linter.unusedVariables false
set_option linter.unusedSimpArgs false
set_option maxRecDepth 100000
set_option maxHeartbeats 8000000
section
open Go.RowKit
attribute [local go_sem] odr cdr
def AllPost (w : World) (xs : List Sm) (e : En) (er : Nat) (en : Ending) (w' : World) : Prop :=
 ∃ v, en = .returned (.tuple #[v, e.v, .int .u16 (er : Nat)]) ∧ (∃ x, w' = over w x) ∧ OwnM w.heap.size w' v xs
structure AllI (w : World) (p3 p6 base : Nat) (xs : List Sm) (k : Nat) (W : World) : Prop where
 ov : ∃ e, W = over w e
 b3 : Blk W p3 En.zero.cs 111
 b6 : ∃ v, Blk W p6 [v] 32 ∧ OwnM base W v (xs.take k)
theorem fold_one (p : Tmp) (v : Value) (t : Array Value) : (Array.zip #[p] #[v]).foldl (fun t x => match x with | (p, v) => t.setIfInBounds p v) t = t.setIfInBounds p v := by simp
theorem run_each (args : Array Value) (w : World) : (callFunc 75 args).run Tryz.prog w = .ok (.enter 75 args) w := run_enter Tryz.func75 (by kernel_rfl) rfl args w
theorem call_any (bs : List Nat) (N : Int) (a : Option Addr) (c : Nat) (xs : List Sm) (er : Nat) (hr : EachOK bs a c N xs er) (hln0 : xs.length ≤ 700000) (w : World) (hT : TabW w) (hb : SlB w a c bs) :
    Calls Tryz.prog 49 #[bv a bs.length c N] w (AllPost w (if er = 0 then xs else []) (if er = 0 then knowC En.zero xs else En.zero) er) := by
  refine calls_of_marks Tryz.func49 rfl ?_; simp only [Tryz.ntmps49, List.size_toArray, List.length_cons, List.length_nil, Nat.reduceAdd, Nat.reduceSub, Array.replicate_succ, Array.replicate_zero, List.push_toArray, List.append_toArray, List.nil_append, List.cons_append]; obtain ⟨RX, hRX⟩ : ∃ RX, (if er = 0 then xs else []) = RX := ⟨_, rfl⟩; obtain ⟨RE, hRE⟩ : ∃ RE, (if er = 0 then knowC En.zero xs else En.zero) = RE := ⟨_, rfl⟩; rw [hRX, hRE]; have HRX := hid hRX; have HRE := hid hRE; clear hRX hRE; go_wp2_with fail
  refine gen_w ?_; intro W0 hW0; have O0 : Hid (∃ e, W0 = over w e) := hid (by rw [hW0]; exact ovA); have B3 : Hid (Blk W0 (w.heap.size + 1) En.zero.cs 111) := hid (by rw [hW0]; exact Blk.alloc (Blk.alloc (Blk.new' (by simp)) _) _); have B5 : Hid (Blk W0 (w.heap.size + 1 + 1) (wkC a bs.length c N 0 En.zero 0) 160) := hid (by rw [hW0]; exact Blk.alloc (Blk.new' (by simp)) _); have B6 : Hid (Blk W0 (w.heap.size + 1 + 1 + 1) [.slice none 0 0] 32) := hid (by rw [hW0]; exact Blk.new' (by simp)); have hs0 : W0.heap.size = w.heap.size + 1 + 1 + 1 + 1 := by rw [hW0]; simp
  clear hW0; obtain ⟨p3, hp3⟩ : ∃ p, p = w.heap.size + 1 := ⟨_, rfl⟩; rw [← hp3] at B3 B5 B6 hs0 ⊢; obtain ⟨p5, hp5⟩ : ∃ p, p = p3 + 1 := ⟨_, rfl⟩; rw [← hp5] at B5 B6 hs0 ⊢; obtain ⟨p6, hp6⟩ : ∃ p, p = p5 + 1 := ⟨_, rfl⟩; rw [← hp6] at B6 hs0 ⊢; have h3w : w.heap.size ≤ p3 := by omega
  have h35 : p3 < p5 := by omega
  have h56 : p5 < p6 := by omega
  clear hp3 hp5 hp6
  refine wp_rangeFunc_st (gf := 75) (la := #[.pointer (some ⟨p5, 0, none⟩)]) (lb := #[]) rfl (fun _ _ => run_each _ _) p5 (by omega) xs.length (fun k => #[smAt xs k]) (fun _ => rfl)
    (fun k => wkC a bs.length c N (bitsC En.zero (xs.take (k + 1))).length (knowC En.zero (xs.take (k + 1))) 0) (wkC a bs.length c N 0 En.zero 0)
    (if er = 0 then wkC a bs.length c N N (knowC En.zero xs) 0 else wkC a bs.length c N 0 En.zero er) 160
    (AllI w p3 p6 (W0.heap.size + 2) xs) ?_ ?_ B5.out ?_ ?_ ?_
  · intro k A B h hc; refine ⟨Chg.ov h.ov hc (by simp; omega), Blk.chg h.b3 hc (by simp; omega), ?_⟩; obtain ⟨v, h1, h2⟩ := h.b6; exact ⟨v, Blk.chg h1 hc (by simp; omega), Own.chg h2 hc (fun g hg => by have := (Own.lt h2 hg).1; simp; omega)⟩
  · exact ⟨O0.out, B3.out, _, B6.out, Own.nil _⟩
  · intro J l W hJ hJI hy h0 hb1; exact hr p5 l J W hJ (fun k A h => TabW.ov hT (hJI k A h).ov) (fun k A h => Sl.ov hb (hJI k A h).ov) hy h0 hb1
  · intro l k W hk hI hs; obtain ⟨hov, hb3, v, hb6, hown⟩ := hI; have hsm := smAt_eq hk; have htk := takeC_get hk; have hln := hln0; have hXl : (xs.take k).length ≤ 700000 := by rw [List.length_take]; omega
    have HT := hid htk; obtain ⟨at', hat'⟩ : ∃ z, (bitsC En.zero (xs.take (k + 1))).length = z := ⟨_, rfl⟩; obtain ⟨kn', hkn'⟩ : ∃ z, knowC En.zero (xs.take (k + 1)) = z := ⟨_, rfl⟩; rw [hsm, hat', hkn']; generalize xs[k] = x at *; obtain ⟨XS, hXS⟩ : ∃ XS, xs.take k = XS := ⟨_, rfl⟩; rw [hXS] at hown hXl; have HXS := hid hXS; have HOV := hid hov; have H3 := hid hb3; have H6 := hid hb6; have HO := hid hown; clear hsm htk hat' hkn' hXS hov hb3 hb6 hown; refine region_lift (by rintro ⟨a, w, h⟩; exact h) (by kernel_rfl) ?_; rw [fold_one]; simp only [List.setIfInBounds_toArray, List.set_cons_succ, List.set_cons_zero]; go_wp2_with fail
    refine ⟨⟨[], (by exact chA), by simp, by simp, by simp⟩, ?_⟩; intro w2 hc2 hb2 hs2; have C2 : Hid (Chg [W0.heap.size + 1] W w2) := hid (Chg.then (Chg.alloc (Chg.refl _ _) _) hc2 (by simp)); have D7 : Hid (Blk w2 W.heap.size x.cs 38) := hid (Blk.chg (Blk.new' (by rfl)) hc2 (by simp; omega)); have D3 : Hid (Blk w2 p3 En.zero.cs 111) := hid (Blk.chg H3.out C2.out (by simp; omega)); have D6 : Hid (Blk w2 p6 [v] 32) := hid (Blk.chg H6.out C2.out (by simp; omega)); have DO : Hid (OwnM (W0.heap.size + 2) w2 v XS) := hid (Own.chg HO.out C2.out (fun g hg => by have := (Own.lt HO.out hg).1; simp; omega)); have DV : Hid (∃ e, w2 = over w e) := hid (Chg.ov HOV.out C2.out (by simp; omega)); clear hc2 hb2; have q70 := D7.out.cell 0 rfl; have q71 := D7.out.cell 1 rfl; have l7 := D7.out.lt; have q60 := D6.out.cell 0 rfl; have g60 := D6.out.free 0; have l6 := D6.out.lt; have HS0 := hid hs0; clear hs0; refine wpIn_block ?_; refine region_lift (by rintro ⟨a, w, h⟩; simp [Exit.inBlock] at h) (by kernel_rfl) ?_
    go_wp2_with (
      at_builtin
      refine wpList_append' sample_elem Sm.cs_len Sm.cs_one rfl (.tmp 14) (.tmp 16) rfl (base := W0.heap.size + 2) (v := v) (ys := XS) (xs := [x]) (Own.alloc DO.out _) rfl rfl (by exact szA) (by (repeat with_reducible refine Sl.drew ?_); exact Sl.one_new (y := x) (by simp; try omega)) (by simp only [List.length_append, List.length_singleton]; unfold maxLen; omega) (by simp only [List.length_append, List.length_singleton]; omega) ?_; intro v' m hown' hv'; obtain ⟨av, cv, hve, _⟩ := Own.slice Sm.cs_len hown'; subst hve; obtain ⟨n', hn'⟩ : ∃ n', (XS ++ [x]).length = n' := ⟨_, rfl⟩; rw [hn'] at hown' hv' ⊢; clear hn'; refine gen_w ?_; intro W8 hW8; have E8 : Hid (Chg v.ownBlock.toList w2 W8) := hid (by rw [hW8]; exact Chg.trans (Chg.alloc (Chg.refl _ _) _) (chg_chg _ _ _)); have EO : Hid (OwnM (W0.heap.size + 2) W8 (.slice av n' cv) (XS ++ [x])) := hid (by rw [hW8]; exact hown'); have hvl : ∀ g ∈ v.ownBlock.toList, W0.heap.size + 2 ≤ g := fun g hg => (Own.lt DO.out (by simpa using hg)).1; have E6 := hid (Blk.chg D6.out E8.out (fun hm => by have := hvl _ hm; have := HS0.out; omega)); have E3 := hid (Blk.chg D3.out E8.out (fun hm => by have := hvl _ hm; have := HS0.out; omega)); have EV : Hid (∃ e, W8 = over w e) := hid (Chg.ov DV.out E8.out (fun g hg => by have := hvl _ hg; have := HS0.out; omega)); have HVL := hid hvl; clear hW8 hown' hv' hvl q60 g60 l6 q70 q71 l7; have q60 := E6.out.cell 0 rfl; have g60 := E6.out.free 0; have l6 := E6.out.lt)
    have hs0 := HS0.out; have hv6 : (Value.slice av n' cv).ownBlock ≠ some p6 := fun h => by have := (Own.lt EO.out h).1; omega
    refine ⟨trivial, ⟨?_, ?_, _, E6.out.set 0 _, ?_⟩, p6 :: v.ownBlock.toList, ?_, ?_, ?_, ?_⟩
    · exact Chg.ov EV.out (Chg.setCell (F := [p6]) (Chg.refl _ _) (.inl (by simp)) _) (by simp; omega)
    · exact Blk.set_ne E3.out (by simp; omega) _
    · rw [HT.out, HXS.out]; exact Own.set_ne EO.out hv6 _
    · exact Chg.setCell (E8.out.mono (fun i hi => .inl (by simp [hi]))) (.inl (by simp)) _
    · intro hm; rcases List.mem_cons.1 hm with h | h; omega; have := HVL.out _ h; omega
    · intro hm; rcases List.mem_cons.1 hm with h | h; omega; have := HVL.out _ h; omega
    · intro hm; rcases List.mem_cons.1 hm with h | h; omega; have := HVL.out _ h; omega
  · intro W hI hbN hD; obtain ⟨hov, hb3, v, hb6, hown⟩ := hI; rw [List.take_length] at hown; have O1 := hid hov; have C3 := hid hb3; have C6 := hid hb6; have HO := hid hown; clear hov hb3 hb6 hown; by_cases h0 : er = 0
    · subst h0; rw [if_pos rfl] at hbN; have HX := HRX.out; have HE := HRE.out; rw [if_pos rfl] at HX HE; subst HX HE; generalize knowC En.zero xs = t at *; have C5 := hid hbN; clear hbN; have q3 : W.cell? ⟨p5, 10, none⟩ = some (.int .u16 0) := C5.out.cell 10 rfl; have l5 := C5.out.lt; clear HRX HRE O0 B3 B5 B6 hr; have HS0 := hid hs0; clear hs0; have r0 := C5.out.cell 3 rfl; have r1 := C5.out.cell 4 rfl; have r2 := C5.out.cell 5 rfl; have r3 := C5.out.cell 6 rfl; have r4 := C5.out.cell 7 rfl; have r5 := C5.out.cell 8 rfl; have r6 := C5.out.cell 9 rfl; have r7 := C6.out.cell 0 rfl; have u0 := C3.out.cell 0 rfl; have u1 := C3.out.cell 1 rfl; have u2 := C3.out.cell 2 rfl; have u3 := C3.out.cell 3 rfl; have u4 := C3.out.cell 4 rfl; have u5 := C3.out.cell 5 rfl; have u6 := C3.out.cell 6 rfl; have g0 := C3.out.free 0; have g1 := C3.out.free 1; have g2 := C3.out.free 2; have g3 := C3.out.free 3; have g4 := C3.out.free 4; have g5 := C3.out.free 5; have g6 := C3.out.free 6; have l3 := C3.out.lt; have l5 := C5.out.lt; have l6 := C6.out.lt; obtain ⟨F, hF⟩ : ∃ F, F = [p3] := ⟨_, rfl⟩; have i3 : p3 ∈ F := by rw [hF]; simp
      have i5 : p5 ∉ F := by rw [hF]; simp; omega
      have i6 : p6 ∉ F := by rw [hF]; simp; omega
      have n35 : ¬ p3 = p5 := by omega
      have n53 : ¬ p5 = p3 := by omega
      have n36 : ¬ p3 = p6 := by omega
      have n63 : ¬ p6 = p3 := by omega
      have HF := hid hF; clear hF; go_wp2_with fail
      refine M2.wrz (fun w' => ∃ m : Mut, w' = chg F _ m) [6] 8 (by kernel_rfl) (by kernel_rfl) (by decide) (chg_of (Chg.refl _ _)) ?_; simp only [M2.td]; with_reducible refine M2.mlq 6 (by kernel_rfl) ?_
      simp only [M2.td]; repeat (go_big_quiet_step (fail))
      with_reducible refine wpQuiet_nil ?_
      with_reducible refine M2.mixL_eff (by decide) ?_
      go_wp2_with (fail)
      refine M2.MixQ.mk (chg_of (by exact chA)) ?_; with_reducible refine M2.mlq 1 (by kernel_rfl) ?_
      simp only [M2.td]; repeat (go_big_quiet_step (fail))
      with_reducible refine wpQuiet_nil ?_
      with_reducible refine M2.mln ?_
      with_reducible refine M2.mln ?_
      refine gen_w ?_; intro W9 hW9; have X3 : Hid (Blk W9 p3 t.cs 111) := hid (by rw [hW9]; exact Blk.drew (((((((C3.out.set 0 _).set 1 _).set 2 _).set 3 _).set 4 _).set 5 _).set 6 _)); have X9 : Hid (Chg [p3] W W9) := hid (by rw [hW9]; exact (by exact chA)); clear hW9; go_wp2_with fail
      have hs0 := HS0.out; have hDl : W0.heap.size < W.heap.size := by
       rcases Nat.lt_or_ge W0.heap.size W.heap.size with h | h
       · exact h
       · rw [Array.getElem?_eq_none h] at hD; cases hD
      have Z3 := Blk.chg X3.out (chg_putObj W9 W0.heap.size (.deferred none) (F := [W0.heap.size]) (by simp)) (by simp; omega); have Z9 : Chg [p3, W0.heap.size] W (W9.putObj W0.heap.size (.deferred none)) := Chg.then (X9.out.mono (by simp)) (chg_putObj W9 W0.heap.size (.deferred none) (F := [W0.heap.size]) (by simp)) (by simp); refine ret_mark (v := (.tuple #[v, t.v, .int .u16 0])) rfl ((X9.out.block _ hDl (by simp; omega)).trans hD) ?_ ?_
      · have z0 := Z3.cell 0 rfl; have z1 := Z3.cell 1 rfl; have z2 := Z3.cell 2 rfl; have z3 := Z3.cell 3 rfl; have z4 := Z3.cell 4 rfl; have z5 := Z3.cell 5 rfl; have z6 := Z3.cell 6 rfl; clear hs0; simp only [results, show Tryz.f49.results = #[.tmp 2, .cell 3 111, .tmp 4] from rfl]
        go_simp
      exact ⟨_, rfl, Chg.ov O1.out Z9 (by simp; omega), Own.mono (Own.chg HO.out Z9 (fun g hg => by have := (Own.lt HO.out hg).1; simp; omega)) (by omega)⟩
    · rw [if_neg h0] at hbN; have HX := HRX.out; have HE := HRE.out; rw [if_neg h0] at HX HE; subst HX HE; have C5 := hid hbN; clear hbN; have hq : ((er : Int) != 0) = true := by simp; omega
      have q3 : W.cell? ⟨p5, 10, none⟩ = some (.int .u16 (er : Nat)) := C5.out.cell 10 rfl; have l5 := C5.out.lt; clear HRX HRE O0 B3 B5 B6 hr; have HS0 := hid hs0; clear hs0; have r0 := C5.out.cell 3 rfl; have r1 := C5.out.cell 4 rfl; have r2 := C5.out.cell 5 rfl; have r3 := C5.out.cell 6 rfl; have r4 := C5.out.cell 7 rfl; have r5 := C5.out.cell 8 rfl; have r6 := C5.out.cell 9 rfl; have r7 := C6.out.cell 0 rfl; have u0 := C3.out.cell 0 rfl; have u1 := C3.out.cell 1 rfl; have u2 := C3.out.cell 2 rfl; have u3 := C3.out.cell 3 rfl; have u4 := C3.out.cell 4 rfl; have u5 := C3.out.cell 5 rfl; have u6 := C3.out.cell 6 rfl; have g0 := C3.out.free 0; have g1 := C3.out.free 1; have g2 := C3.out.free 2; have g3 := C3.out.free 3; have g4 := C3.out.free 4; have g5 := C3.out.free 5; have g6 := C3.out.free 6; have l3 := C3.out.lt; have l5 := C5.out.lt; have l6 := C6.out.lt; obtain ⟨F, hF⟩ : ∃ F, F = [p3] := ⟨_, rfl⟩; have i3 : p3 ∈ F := by rw [hF]; simp
      have i5 : p5 ∉ F := by rw [hF]; simp; omega
      have i6 : p6 ∉ F := by rw [hF]; simp; omega
      have n35 : ¬ p3 = p5 := by omega
      have n53 : ¬ p5 = p3 := by omega
      have n36 : ¬ p3 = p6 := by omega
      have n63 : ¬ p6 = p3 := by omega
      clear hF; go_wp2_with fail
      refine M2.wrz (fun w' => ∃ m : Mut, w' = chg F _ m) [6] 8 (by kernel_rfl) (by kernel_rfl) (by decide) (chg_of (Chg.refl _ _)) ?_; simp only [M2.td]; with_reducible refine M2.mlq 6 (by kernel_rfl) ?_
      simp only [M2.td]; repeat (go_big_quiet_step (fail))
      with_reducible refine wpQuiet_nil ?_
      with_reducible refine M2.mixL_eff (by decide) ?_
      go_wp2_with (fail)
      refine M2.MixQ.mk (chg_of (by exact chA)) ?_; with_reducible refine M2.mlq 1 (by kernel_rfl) ?_
      simp only [M2.td]; repeat (go_big_quiet_step (fail))
      with_reducible refine wpQuiet_nil ?_
      with_reducible refine M2.mln ?_
      with_reducible refine M2.mln ?_
      refine gen_w ?_; intro W9 hW9; have X3 : Hid (Blk W9 p3 En.zero.cs 111) := hid (by rw [hW9]; exact Blk.drew (((((((C3.out.set 0 _).set 1 _).set 2 _).set 3 _).set 4 _).set 5 _).set 6 _)); have X9 : Hid (Chg [p3] W W9) := hid (by rw [hW9]; exact (by exact chA)); clear hW9; go_wp2_with fail
      have hs0 := HS0.out; have hDl : W0.heap.size < W.heap.size := by
       rcases Nat.lt_or_ge W0.heap.size W.heap.size with h | h
       · exact h
       · rw [Array.getElem?_eq_none h] at hD; cases hD
      have Z3 := Blk.chg X3.out (chg_putObj W9 W0.heap.size (.deferred none) (F := [W0.heap.size]) (by simp)) (by simp; omega); have Z9 : Chg [p3, W0.heap.size] W (W9.putObj W0.heap.size (.deferred none)) := Chg.then (X9.out.mono (by simp)) (chg_putObj W9 W0.heap.size (.deferred none) (F := [W0.heap.size]) (by simp)) (by simp); refine ret_mark (v := (.tuple #[.slice none 0 0, En.zero.v, .int .u16 (er : Nat)])) rfl ((X9.out.block _ hDl (by simp; omega)).trans hD) ?_ ?_
      · have z0 := Z3.cell 0 rfl; have z1 := Z3.cell 1 rfl; have z2 := Z3.cell 2 rfl; have z3 := Z3.cell 3 rfl; have z4 := Z3.cell 4 rfl; have z5 := Z3.cell 5 rfl; have z6 := Z3.cell 6 rfl; clear hs0; simp only [results, show Tryz.f49.results = #[.tmp 2, .cell 3 111, .tmp 4] from rfl]
        go_simp
      exact ⟨_, rfl, Chg.ov O1.out Z9 (by simp; omega), Own.nil _⟩
end
section
open Go.RowKit
attribute [local go_sem] odr cdr
def EndPost (w : World) (us : List Nat) (er : Nat) (en : Ending) (w' : World) : Prop :=
 ∃ v, en = .returned (.tuple #[v, .int .u16 (er : Nat)]) ∧ (∃ x, w' = over w x) ∧ OwnI w.heap.size w' v us
structure EndI (w : World) (p4 p5 p6 base : Nat) (xs : List Sm) (k : Nat) (W : World) : Prop where
 ov : ∃ e, W = over w e
 b4 : Blk W p4 [.pointer (some ⟨p5, 0, none⟩)] 158
 b6 : ∃ v, Blk W p6 [v] 107 ∧ OwnI base W v (endsK xs k)
theorem cends_any (bs : List Nat) (N : Int) (a : Option Addr) (c : Nat) (xs : List Sm) (er : Nat) (hr : EachOK bs a c N xs er) (hln0 : xs.length ≤ 700000) (w : World) (hT : TabW w) (hb : SlB w a c bs) :
    Calls Tryz.prog 74 #[bv a bs.length c N] w (EndPost w (if er = 0 then endsK xs xs.length else []) er) := by
  refine calls_of_marks Tryz.func74 rfl ?_; simp only [Tryz.ntmps74, List.size_toArray, List.length_cons, List.length_nil, Nat.reduceAdd, Nat.reduceSub, Array.replicate_succ, Array.replicate_zero, List.push_toArray, List.append_toArray, List.nil_append, List.cons_append]; obtain ⟨RX, hRX⟩ : ∃ RX, (if er = 0 then endsK xs xs.length else []) = RX := ⟨_, rfl⟩; rw [hRX]; have HRX := hid hRX; clear hRX; go_wp2_with fail
  refine gen_w ?_; intro W0 hW0; have O0 : Hid (∃ e, W0 = over w e) := hid (by rw [hW0]; exact ovA); have B5 : Hid (Blk W0 (w.heap.size + 1) (wkC a bs.length c N 0 En.zero 0) 160) := hid (by rw [hW0]; exact Blk.alloc (Blk.alloc (Blk.new' (by simp)) _) _); have B4 : Hid (Blk W0 (w.heap.size + 1 + 1) [.pointer (some ⟨w.heap.size + 1, 0, none⟩)] 158) := hid (by rw [hW0]; exact Blk.alloc (Blk.new' (by simp)) _); have B6 : Hid (Blk W0 (w.heap.size + 1 + 1 + 1) [.slice none 0 0] 107) := hid (by rw [hW0]; exact Blk.new' (by simp)); have hs0 : W0.heap.size = w.heap.size + 1 + 1 + 1 + 1 := by rw [hW0]; simp
  clear hW0; obtain ⟨p5, hp5⟩ : ∃ p, p = w.heap.size + 1 := ⟨_, rfl⟩; rw [← hp5] at B4 B5 B6 hs0 ⊢; obtain ⟨p4, hp4⟩ : ∃ p, p = p5 + 1 := ⟨_, rfl⟩; rw [← hp4] at B4 B6 hs0 ⊢; obtain ⟨p6, hp6⟩ : ∃ p, p = p4 + 1 := ⟨_, rfl⟩; rw [← hp6] at B6 hs0 ⊢; have h3w : w.heap.size ≤ p5 := by omega
  have h54 : p5 < p4 := by omega
  have h46 : p4 < p6 := by omega
  clear hp4 hp5 hp6
  refine wp_rangeFunc_st (gf := 75) (la := #[.pointer (some ⟨p5, 0, none⟩)]) (lb := #[]) rfl (fun _ _ => run_each _ _) p5 (by omega) xs.length (fun k => #[smAt xs k]) (fun _ => rfl)
    (fun k => wkC a bs.length c N (bitsC En.zero (xs.take (k + 1))).length (knowC En.zero (xs.take (k + 1))) 0) (wkC a bs.length c N 0 En.zero 0)
    (if er = 0 then wkC a bs.length c N N (knowC En.zero xs) 0 else wkC a bs.length c N 0 En.zero er) 160
    (EndI w p4 p5 p6 (W0.heap.size + 2) xs) ?_ ?_ B5.out ?_ ?_ ?_
  · intro k A B h hc; refine ⟨Chg.ov h.ov hc (by simp; omega), Blk.chg h.b4 hc (by simp; omega), ?_⟩; obtain ⟨v, h1, h2⟩ := h.b6; exact ⟨v, Blk.chg h1 hc (by simp; omega), Own.chg h2 hc (fun g hg => by have := (Own.lt h2 hg).1; simp; omega)⟩
  · exact ⟨O0.out, B4.out, _, B6.out, Own.nil _⟩
  · intro J l W hJ hJI hy h0 hb1; exact hr p5 l J W hJ (fun k A h => TabW.ov hT (hJI k A h).ov) (fun k A h => Sl.ov hb (hJI k A h).ov) hy h0 hb1
  · intro l k W hk hI hs; obtain ⟨hov, hb4, v, hb6, hown⟩ := hI; have hXl : (endsK xs k).length ≤ 700000 := by rw [endsK_len]; omega
    have HT := hid (endsK_snoc xs k); obtain ⟨at', hat'⟩ : ∃ z, (bitsC En.zero (xs.take (k + 1))).length = z := ⟨_, rfl⟩; obtain ⟨kn', hkn'⟩ : ∃ z, knowC En.zero (xs.take (k + 1)) = z := ⟨_, rfl⟩; rw [hat'] at HT; rw [hat', hkn']; obtain ⟨US, hUS⟩ : ∃ US, endsK xs k = US := ⟨_, rfl⟩; rw [hUS] at hown hXl HT; have HOV := hid hov; have H4 := hid hb4; have H6 := hid hb6; have HO := hid hown; clear hat' hkn' hUS hov hb4 hb6 hown; refine wpIn_skip ?_; rw [fold_one]; simp only [List.setIfInBounds_toArray, List.set_cons_succ, List.set_cons_zero]; refine ⟨⟨[], Chg.refl _ _, by simp, by simp, by simp⟩, ?_⟩; intro w2 hc2 hb2 hs2; have D5 : Hid (Blk w2 p5 (wkC a bs.length c N at' kn' 0) 160) := hid hb2; have D4 := hid (Blk.chg H4.out hc2 (by simp; omega)); have D6 := hid (Blk.chg H6.out hc2 (by simp; omega)); have DO : Hid (OwnI (W0.heap.size + 2) w2 v US) := hid (Own.chg HO.out hc2 (fun g hg => by have := (Own.lt HO.out hg).1; simp; omega)); have DV : Hid (∃ e, w2 = over w e) := hid (Chg.ov HOV.out hc2 (by simp; omega)); clear hc2 hb2; have q51 : w2.cell? ⟨p5, 1 + 1, none⟩ = some (.int .i64 (at' : Nat)) := D5.out.cell 2 rfl; have l5 := D5.out.lt; have q40 := D4.out.cell 0 rfl; have l4 := D4.out.lt; have q60 := D6.out.cell 0 rfl; have g60 := D6.out.free 0; have l6 := D6.out.lt; have HS0 := hid hs0; clear hs0; refine wpIn_block ?_; refine mixZ_lift (by rintro ⟨a, w, h⟩; simp [Exit.inBlock] at h) (by kernel_rfl) (fun w' => ∃ e : World, w' = over (w2) e) [5, 6, 7] 6 (by kernel_rfl) (by kernel_rfl) (by decide) (ovA) ?_; simp only [M2.td]; with_reducible refine M2.mlq 5 (by kernel_rfl) ?_
    simp only [M2.td]; repeat (go_big_quiet_step (fail))
    with_reducible refine wpQuiet_nil ?_
    with_reducible refine M2.mixL_eff (by decide) ?_
    go_wp2_with (fail)
    refine M2.MixQ.mk ovA ?_; with_reducible refine M2.mln ?_
    with_reducible refine M2.mixL_eff (by decide) ?_
    go_wp2_with ((at_builtin; refine wpList_append' int_elem ics_len ics_one rfl (.tmp 12) (.tmp 17) rfl (base := W0.heap.size + 2) (v := v) (ys := US) (xs := [at']) (Own.drew (Own.alloc DO.out _)) rfl rfl (by exact szA) (by (repeat with_reducible refine Sl.drew ?_); exact Sl.one_new (y := at') (by simp; try omega)) (by simp only [List.length_append, List.length_singleton]; unfold maxLen; omega) (by simp only [List.length_append, List.length_singleton]; omega) ?_; intro v' m hown' hv'; obtain ⟨av, cv, hve, _⟩ := Own.slice ics_len hown'; subst hve; obtain ⟨n', hn'⟩ : ∃ n', (US ++ [at']).length = n' := ⟨_, rfl⟩; rw [hn'] at hown' hv' ⊢; clear hn'; refine gen_w ?_; intro W8 hW8; have E8 : Hid (Chg v.ownBlock.toList w2 W8) := hid (by rw [hW8]; exact Chg.trans (Chg.drew (Chg.alloc (Chg.refl _ _) _)) (chg_chg _ _ _)); have EO : Hid (OwnI (W0.heap.size + 2) W8 (.slice av n' cv) (US ++ [at'])) := hid (by rw [hW8]; exact hown'); have hvl : ∀ g ∈ v.ownBlock.toList, W0.heap.size + 2 ≤ g := fun g hg => (Own.lt DO.out (by simpa using hg)).1; have E6 := hid (Blk.chg D6.out E8.out (fun hm => by have := hvl _ hm; have := HS0.out; omega)); have E4 := hid (Blk.chg D4.out E8.out (fun hm => by have := hvl _ hm; have := HS0.out; omega)); have EV : Hid (∃ e, W8 = over w e) := hid (Chg.ov DV.out E8.out (fun g hg => by have := hvl _ hg; have := HS0.out; omega)); have HVL := hid hvl; clear hW8 hown' hv' hvl q60 g60 l6; have q60 := E6.out.cell 0 rfl; have g60 := E6.out.free 0; have l6 := E6.out.lt))
    refine M2.MixQ.mk trivial ?_; with_reducible refine M2.mixL_eff (by decide) ?_
    go_wp2_with (fail)
    refine M2.MixQ.mk trivial ?_; with_reducible refine M2.mln ?_
    have hs0 := HS0.out; have hv6 : (Value.slice av n' cv).ownBlock ≠ some p6 := fun h => by have := (Own.lt EO.out h).1; omega
    refine ⟨⟨?_, ?_, _, E6.out.set 0 _, ?_⟩, p6 :: v.ownBlock.toList, ?_, ?_, ?_, ?_⟩
    · exact Chg.ov EV.out (Chg.setCell (F := [p6]) (Chg.refl _ _) (.inl (by simp)) _) (by simp; omega)
    · exact Blk.set_ne E4.out (by simp; omega) _
    · rw [HT.out]; exact Own.set_ne EO.out hv6 _
    · exact Chg.setCell (E8.out.mono (fun i hi => .inl (by simp [hi]))) (.inl (by simp)) _
    · intro hm; rcases List.mem_cons.1 hm with h | h; omega; have := HVL.out _ h; omega
    · intro hm; rcases List.mem_cons.1 hm with h | h; omega; have := HVL.out _ h; omega
    · intro hm; rcases List.mem_cons.1 hm with h | h; omega; have := HVL.out _ h; omega
  · intro W hI hbN hD; obtain ⟨hov, hb4, v, hb6, hown⟩ := hI; have O1 := hid hov; have C4 := hid hb4; have C6 := hid hb6; have HO := hid hown; clear hov hb4 hb6 hown O0 B4 B5 B6 hr; have HS0 := hid hs0; clear hs0; have q40 := C4.out.cell 0 rfl; have q60 := C6.out.cell 0 rfl; have l4 := C4.out.lt; have l6 := C6.out.lt; have hDl : W0.heap.size < W.heap.size := by
     rcases Nat.lt_or_ge W0.heap.size W.heap.size with h | h
     · exact h
     · rw [Array.getElem?_eq_none h] at hD; cases hD
    have HX := HRX.out; by_cases h0 : er = 0
    · subst h0; rw [if_pos rfl] at hbN HX; subst HX; have C5 := hid hbN; have q5 : W.cell? ⟨p5, 10, none⟩ = some (.int .u16 0) := C5.out.cell 10 rfl; have l5 := C5.out.lt; clear hbN HRX; go_wp2_with fail
      have Z9 := chg_putObj W W0.heap.size (.deferred none) (F := [W0.heap.size]) (by simp); refine ret_mark (v := .tuple #[v, .int .u16 0]) rfl hD ?_ ?_
      · simp only [results, show Tryz.f74.results = #[.tmp 2, .tmp 3] from rfl]
        go_simp
      · have hs0 := HS0.out; exact ⟨_, rfl, Chg.ov O1.out Z9 (by simp; omega), Own.mono (Own.chg HO.out Z9 (fun g hg => by have := (Own.lt HO.out hg).1; simp; omega)) (by omega)⟩
    · rw [if_neg h0] at hbN HX; subst HX; have C5 := hid hbN; have hq : ((er : Int) != 0) = true := by simp; omega
      have q5 : W.cell? ⟨p5, 10, none⟩ = some (.int .u16 (er : Nat)) := C5.out.cell 10 rfl; have l5 := C5.out.lt; clear hbN HRX; go_wp2_with fail
      refine wro (by kernel_rfl) (by kernel_rfl) ?_; repeat (go_big_quiet_step ((fail)))
      refine wpQuiet_nil ?_; intro _ hw'; obtain ⟨nq, rfl⟩ := hw'; refine gen_w ?_; intro W9 hW9; have X9 : Hid (Chg [] W W9) := hid (by rw [hW9]; exact (by exact chA)); clear hW9; go_wp2_with fail
      have Z9 := Chg.then (F := [W0.heap.size]) (X9.out.mono (by simp)) (chg_putObj W9 W0.heap.size (.deferred none) (F := [W0.heap.size]) (by simp)) (by simp); refine ret_mark (v := .tuple #[.slice none 0 0, .int .u16 (er : Nat)]) rfl ((X9.out.block _ hDl (by simp)).trans hD) ?_ ?_
      · simp only [results, show Tryz.f74.results = #[.tmp 2, .tmp 3] from rfl]
        go_simp
      · have hs0 := HS0.out; exact ⟨_, rfl, Chg.ov O1.out Z9 (by simp; omega), Own.nil _⟩
end
end Go.Proofs.YtnffcckhdedhpaaGreatDoor
