import Derived.Test.YtnffcckhdedhpaaGreatDoorPA
import Derived.Lib.AppendZeros
import Derived.Test.YtnffcckhdedhpaaGreatDoorChecked
import Derived.Test.YtnffcckhdedhpaaGreatDoorLB
import Derived.Deep.Cut
import Derived.Test.YtnffcckhdedhpaaGreatDoorHD
namespace Go.Proofs.YtnffcckhdedhpaaGreatDoor
set_option linter.unusedVariables false
set_option linter.unusedSimpArgs false
set_option maxRecDepth 100000
set_option maxHeartbeats 8000000
section
open Go.RowKit
attribute [local go_sem] odr cdr
def GrwPost (w : World) (en : Ending) (w' : World) : Prop := ∃ v, en = .returned v ∧ (∃ e, w' = over w e) ∧ OwnLf w.heap.size w' v [] ∧ ∃ a c, v = .slice a 0 c
theorem grow_leaf (n : Nat) (hn : n ≤ 100000) (w : World) : Calls Tryz.prog 67 #[.slice none 0 0, .int .i64 (n : Nat)] w (GrwPost w) := by
 by_cases h0 : 0 < n
 · obtain ⟨i, z, g1, g2, g3, g4, g5⟩ := leaf_elem.info; have hr : ∀ ty, (Builtin.append_ #[23, 3] ty #[.slice none 0 0, .int .i64 (n : Nat)]).run Tryz.prog w = .ok (.slice (some ⟨w.heap.size, 0, none⟩) n (grownCap w n 0 65)) (w.drew.alloc (.cells (Builtin.zeroCells z.cells n ++ Builtin.zeroCells z.cells (grownCap w n 0 65 - n)) 65)) := fun ty =>
    Lib.run_append_nil_zeros w 23 3 ty 65 i z .i64 .i64 leaf_elem.ht (by kernel_rfl) g1 g2 n h0 (by rw [g3]; decide) (by omega) (by rw [g4]; omega)
   have hG1 : n ≤ grownCap w n 0 65 := grownCap_ge w _ _ _; have hG2 : grownCap w n 0 65 ≤ maxLen := grownCap_le_maxLen w n 0 65 (by unfold maxLen; omega); obtain ⟨G, hG⟩ : ∃ G, grownCap w n 0 65 = G := ⟨_, rfl⟩; rw [hG] at hr hG1 hG2; have hsz : (Builtin.zeroCells z.cells n ++ Builtin.zeroCells z.cells (G - n)).size = G * 4 := by
    rw [Array.size_append, size_zeroCells, size_zeroCells]; rw [g5, ← Nat.add_mul]; congr 1; omega
   obtain ⟨C, hC⟩ : ∃ C, Builtin.zeroCells z.cells n ++ Builtin.zeroCells z.cells (G - n) = C := ⟨_, rfl⟩; rw [hC] at hr hsz; have HR := hid hr; have HO : Hid (OwnLf w.heap.size (w.drew.alloc (.cells C 65)) (.slice (some ⟨w.heap.size, 0, none⟩) 0 G) []) := hid ⟨rfl, .inr ⟨w.heap.size, G, C, rfl, Nat.le_refl _, heap_alloc_new w.drew _, Nat.zero_le _, hG2, hsz, by simp [flat]⟩⟩; have w1 : G ≤ 9223372036854775807 := by unfold maxLen at hG2; omega
   clear hr hC hG hsz g1 g2 g3 g4 g5 hG2
   go_enter Tryz.func67, Tryz.ntmps67; go_wp2_with (at_builtin; refine Lib.wpList_append_run _ rfl (.tmp 20) (.tmp 21) 23 3 rfl _ _ rfl rfl _ _ (HR.out _) ?_)
   go_ret
   exact ⟨_, rfl, ovA, HO.out, _, _, rfl⟩
 · obtain rfl : n = 0 := by omega
   go_enter Tryz.func67, Tryz.ntmps67; go_wp2; go_ret
   exact ⟨_, rfl, ovA, Own.nil _, _, _, rfl⟩
def LfsPost (w : World) (l : List Lf) (en : Ending) (w' : World) : Prop := ∃ v, en = .returned v ∧ (∃ e, w' = over w e) ∧ OwnLf w.heap.size w' v l
theorem concat_any (l m : List Lf) (hl : l.length ≤ 10000) (hm : m.length ≤ 10000) (a1 a2 : Option Addr) (c1 c2 b : Nat) (w : World) (s1 : SlL w a1 c1 l) (s2 : SlL w a2 c2 m)
    (q0 : w.cell? ⟨b, 0, none⟩ = some (.slice a1 l.length c1)) (q1 : w.cell? ⟨b, 1, none⟩ = some (.slice a2 m.length c2)) (hb : b < w.heap.size) :
    Calls Tryz.prog 42 #[.slice (some ⟨b, 0, none⟩) 2 2] w (LfsPost w (l ++ m)) := by
  have HG := hid (grow_leaf (l.length + m.length) (by omega)); have S1 := hid s1; have S2 := hid s2; have C0 := hid q0; have C1 := hid q1; obtain ⟨n1, hn1⟩ : ∃ n, l.length = n := ⟨_, rfl⟩; obtain ⟨n2, hn2⟩ : ∃ n, m.length = n := ⟨_, rfl⟩; have HN1 := hid hn1; have HN2 := hid hn2; rw [hn1, hn2] at HG; rw [hn1] at hl q0 C0; rw [hn2] at hm q1 C1; obtain ⟨N, hN⟩ : ∃ n, n1 + n2 = n := ⟨_, rfl⟩; rw [hN] at HG; clear hn1 hn2 s1 s2
  go_enter Tryz.func42, Tryz.ntmps42; go_wp2
  go_loop [3, 5, 11] (fun z s i => (i = .int .i64 0 ∧ z = .int .i64 0) ∨ (i = .int .i64 1 ∧ z = .int .i64 (n1 : Nat)) ∨ (i = .int .i64 2 ∧ z = .int .i64 (N : Nat))) (fun _ _ i => 2 - (intOf i).toNat)
  case atStart => exact .inl ⟨rfl, rfl⟩
  case round =>
   rcases hrel with ⟨rfl, rfl⟩ | ⟨rfl, rfl⟩ | ⟨rfl, rfl⟩
   · go_wp2
     go_round
     case rel => exact .inr (.inl ⟨by go_num, by go_num⟩)
     case measure => (simp [intOf]; try omega)
   · go_wp2
     go_round
     case rel => exact .inr (.inr ⟨by go_num, by go_num⟩)
     case measure => (simp [intOf]; try omega)
   · go_wp2_with (go_at_call 67; (with_reducible refine (HG.out _).mono ?_); rintro _ _ ⟨v1, rfl, ⟨e1, rfl⟩, ho1, _⟩; have HO1 := hid ho1; clear ho1)
     go_loopw [6, 8, 27] (fun v s i wr => ((i = .int .i64 0 ∧ OwnLf w.heap.size wr v []) ∨ (i = .int .i64 1 ∧ OwnLf w.heap.size wr v l) ∨ (i = .int .i64 2 ∧ OwnLf w.heap.size wr v (l ++ m))) ∧ Ov w wr) (fun _ _ i _ => 2 - (intOf i).toNat)
     case atStart => exact ⟨.inl ⟨rfl, HO1.out⟩, ovA⟩
     case round =>
      obtain ⟨hq, ⟨e0, rfl⟩⟩ := hrel; rcases hq with ⟨rfl, hown⟩ | ⟨rfl, hown⟩ | ⟨rfl, hown⟩
      · have HW := hid hown; clear hown; go_wp2_with (at_builtin; refine wpList_append leaf_elem Lf.cs_len Lf.cs_one rfl (.tmp 31) (.tmp 32) rfl (w1 := over w e0) (B := w) (base := w.heap.size) (ys := []) (xs := l) HW.out rfl (by rw [HN1.out]; rfl) ovA ovA (Nat.le_refl _) (by simp) (by exact slA S1.out) (by rw [HN1.out]; simp only [List.length_nil]; unfold maxLen; omega) (by rw [HN1.out]; simp only [List.length_nil]; omega) ?_; intro v' x' ho2 _ _; rw [List.nil_append] at ho2; have HO2 := hid ho2; clear ho2)
        go_roundw
        case rel => exact ⟨.inr (.inl ⟨by go_num, (by exact ownA HO2.out)⟩), ovA⟩
        case measure => (simp [intOf]; try omega)
      · have HW := hid hown; clear hown; go_wp2_with (at_builtin; refine wpList_append leaf_elem Lf.cs_len Lf.cs_one rfl (.tmp 31) (.tmp 32) rfl (w1 := over w e0) (B := w) (base := w.heap.size) (ys := l) (xs := m) HW.out rfl (by rw [HN2.out]; rfl) ovA ovA (Nat.le_refl _) (by simp) (by exact slA S2.out) (by rw [HN1.out, HN2.out]; unfold maxLen; omega) (by rw [HN1.out, HN2.out]; omega) ?_; intro v' x' ho2 _ _; have HO2 := hid ho2; clear ho2)
        go_roundw
        case rel => exact ⟨.inr (.inr ⟨by go_num, (by exact ownA HO2.out)⟩), ovA⟩
        case measure => (simp [intOf]; try omega)
      · have HW := hid hown; clear hown; go_wp2; go_ret
        exact ⟨_, rfl, ovA, HW.out⟩
end
section
open Go.RowKit
attribute [local go_sem] odr cdr
theorem keys_resV (tmps : Array Value) (w : World) : (results Tryz.f70 tmps).run Tryz.prog w = .ok (.tuple #[]) w := by
 simp [results, show Tryz.f70.results = #[] from rfl, go_sem]
theorem keys_iterV (m : List (Nat × Value)) (mb pm p l : Nat) (J : List Nat → World → Prop) (W : World) (hW : W.heap.size = p) (hmb : mb < p) (hpm : pm < p)
    (hJ : ∀ s A B, J s A → Chg [p] A B → J s B) (hM : MapAt W mb m) (hP : Blk W pm [.map (some mb)] 94)
    (hy : ∀ s i W1, (hi : i < m.length) → i ∉ s → J s W1 → p < W1.heap.size → YieldAt Fence.wide 0 Tryz.prog l #[.int .u32 (m[i].1 : Nat)] W1 fun e W' => e = .returned (.bool true) ∧ J (s ++ [i]) W' ∧ ∃ G, Chg G W1 W' ∧ p ∉ G ∧ mb ∉ G)
    (h0 : J [] W) :
    Calls Tryz.prog 70 #[.func (.yield l) #[] #[], .pointer (some ⟨pm, 0, none⟩)] W (fun e W' => (∃ v, e = .returned v) ∧ ∃ s, J s W' ∧ s.Nodup ∧ (∀ i ∈ s, i < m.length) ∧ ∀ i, i < m.length → i ∈ s) := by
  obtain ⟨o, hrun, hR0⟩ := rng_start (P := Tryz.prog) (t := 94) (k := 31) (e := 31) (by kernel_rfl) hM; rw [hW] at hR0 hrun; have c0 := hP.cell 0 rfl; have cl := hP.lt; have HJ := hid hJ; have HY := hid hy; have H0 := hid h0; have HR0 := hid hR0; clear hJ hy h0 hR0 hM hP
  go_enter Tryz.func70, Tryz.ntmps70; go_wp2
  go_loopw [3] (fun _ wr => ∃ s, RngAt wr mb p m s ∧ J s wr) (fun _ wr => rngLeft wr p m.length)
  case atStart => exact ⟨[], HR0.out, HJ.out _ _ _ H0.out (Chg.alloc (Chg.refl _ _) _)⟩
  case round =>
   obtain ⟨s, hR, hj⟩ := hrel; have hle := hR.left_eq m.length; rcases rng_next' (P := Tryz.prog) hR with ⟨hall, hrun2⟩ | ⟨i, hi, hns, mt, hrun2, hR2, hen⟩
   · have HS := hid (And.intro hj (And.intro hR.2.1 (And.intro hR.2.2.1 hall))); clear hR hj hall hrun c0 cl hle; go_wp2; refine ⟨rfl, _, keys_resV _ _, ⟨_, rfl⟩, s, HS.out⟩
   · obtain ⟨W2, hW2⟩ : ∃ W2, W2 = chg [p] wr mt := ⟨_, rfl⟩; have J2 : Hid (J s W2) := hid (HJ.out _ _ _ hj (by rw [hW2]; exact chg_chg _ _ _)); rw [← hW2] at hrun2 hR2 hen; have R2 := hid hR2; have hp2 := hR2.lt; have HLE := hid hle; have HY2 := hid (HY.out s i W2 hi hns J2.out hp2); obtain ⟨kk, hkk⟩ : ∃ k, m[i].1 = k := ⟨_, rfl⟩; obtain ⟨vv, hvv⟩ : ∃ v, m[i].2 = v := ⟨_, rfl⟩; rw [hkk] at hrun2 hen HY2; rw [hvv] at hrun2 hen; clear hR hj hrun c0 cl hle hW2 hR2 hkk hvv hns hi
     go_upto_region 3 with (fail)
     obtain ⟨fn, tmps, assign, body, hy, hR3⟩ := HY2.out; rw [← wpIn_wide (n := 1)]
     gi_wp2
     refine hR3.mono ?_; rintro e W6 ⟨rfl, hj6, G, hG, hGp, hGm⟩; have J6 := hid hj6; have R6 := hid (RngAt.chg R2.out hG hGm hGp); clear hj6 hG hGp hGm hR3 hy
     gi_wp2
     go_wp2; go_roundw
     case rel => exact ⟨s ++ [i], R6.out, J6.out⟩
     case measure =>
      have h1 := R6.out.left_eq m.length; have h2 := R6.out.len_le; rw [h1, HLE.out]; rw [List.length_append] at *; simp at *; omega
end
section
open Go.RowKit
attribute [local go_sem] odr cdr
theorem foldWV (p : Tmp) (v : Value) (t : Array Value) : (Array.zip #[p] #[v]).foldl (fun t x => match x with | (p, v) => t.setIfInBounds p v) t = t.setIfInBounds p v := by simp
theorem run_keysV (args : Array Value) (w : World) : (callFunc 70 args).run Tryz.prog w = .ok (.enter 70 args) w := run_enter Tryz.func70 (by kernel_rfl) rfl args w
def keyAtV (m : List (Nat × Value)) (i : Nat) : Nat := (m[i]!).1
theorem keyAt_eqV {m : List (Nat × Value)} {i : Nat} (h : i < m.length) : keyAtV m i = m[i].1 := by simp [keyAtV, h]
structure ApIV (w : World) (b base : Nat) (m : List (Nat × Value)) (s : List Nat) (W : World) : Prop where
 ov : ∃ e, W = over w e
 bx : ∃ v, Blk W b [v] 77 ∧ OwnW base W v (s.map (keyAtV m))
 nd : s.Nodup ∧ ∀ i ∈ s, i < m.length
def KsResV (w : World) (m : List (Nat × Value)) (en : Ending) (w' : World) : Prop :=
 (∃ e, w' = over w e) ∧ ∃ v ks, en = .returned v ∧ ks.Perm (m.map (·.1)) ∧ OwnW w.heap.size w' v ks
theorem appendSeq_keysV {m : List (Nat × Value)} {mb pm : Nat} (w : World) (hM : MapAt w mb m) (hP : Blk w pm [.map (some mb)] 94) (hml : m.length ≤ 1000000) (h32 : ∀ x ∈ m, x.1 < 4294967296) :
    Calls Tryz.prog 96 #[.slice none 0 0, .func (.func 70) #[] #[.pointer (some ⟨pm, 0, none⟩)]] w (KsResV w m) := by
  refine calls_of_marks Tryz.func96 rfl ?_; simp only [Tryz.ntmps96, List.size_toArray, List.length_cons, List.length_nil, Nat.reduceAdd, Nat.reduceSub, Array.replicate_succ, Array.replicate_zero, List.push_toArray, List.append_toArray, List.nil_append, List.cons_append]; go_wp2_with fail
  refine gen_w ?_; intro W0 hW0; have hmbl := hM.lt; have hpml := hP.lt; have O0 : Hid (∃ e, W0 = over w e) := hid (by rw [hW0]; exact ovA); have M0 : Hid (MapAt W0 mb m) := hid (by rw [hW0]; exact MapAt.chg hM (Chg.alloc (Chg.refl [] w) _) (by simp)); have P0 : Hid (Blk W0 pm [.map (some mb)] 94) := hid (by rw [hW0]; exact Blk.alloc hP _); have B0 : Hid (Blk W0 w.heap.size [.slice none 0 0] 77) := hid (by rw [hW0]; exact Blk.new' (by simp)); have hs0 : W0.heap.size = w.heap.size + 1 := by rw [hW0]; simp
  clear hW0 hM hP
  refine wp_rangeFunc_set (gf := 70) (la := #[]) (lb := #[.pointer (some ⟨pm, 0, none⟩)]) rfl (fun _ _ => run_keysV _ _) m.length (fun i => #[.int .u32 (keyAtV m i : Nat)]) (fun _ => rfl) [mb, pm] (by simp; omega)
    (ApIV w w.heap.size (W0.heap.size + 3) m) ?_ ?_ ?_ ?_ ?_
  · rintro s A B ⟨hov, ⟨v, h1, h2⟩, hnd⟩ hc; exact ⟨Chg.ov hov hc (by simp; omega), ⟨v, Blk.chg h1 hc (by simp; omega), Own.chg h2 hc (fun g hg => by have := (Own.lt h2 hg).1; simp; omega)⟩, hnd⟩
  · exact ⟨O0.out, ⟨_, B0.out, Own.nil _⟩, by simp, by simp⟩
  · intro J l W hsz hc hJ hJI hy h0; refine (keys_iterV m mb pm (W0.heap.size + 2) l J W hsz (by omega) (by omega) hJ (MapAt.chg M0.out hc (by simp)) (Blk.chg P0.out hc (by simp)) ?_ h0).mono ?_
    · intro s i W1 hi hns hj hlt; obtain ⟨fn, tmps, asg, body, h1, h2⟩ := hy s i W1 hi hns hj hlt; rw [keyAt_eqV hi] at h1; refine ⟨fn, tmps, asg, body, h1, h2.mono ?_⟩; rintro e W' ⟨h3, h4, G, h5, h6, h7⟩; exact ⟨h3, h4, G, h5, h6, h7 _ (by simp)⟩
    · exact fun _ _ h => h
  · intro l s i W hi his hI hs; obtain ⟨hov, ⟨v, hb2, hown⟩, hnd, hlt⟩ := hI; have hk32 : keyAtV m i < 4294967296 := by rw [keyAt_eqV hi]; exact h32 _ (List.getElem_mem hi)
    have hsl : s.length ≤ m.length := by
     have := nodup_len s (List.range m.length) hnd (fun i hi => List.mem_range.2 (hlt i hi))
     simpa using this
    have hgo : (s ++ [i]).map (keyAtV m) = s.map (keyAtV m) ++ [keyAtV m i] := by simp
    have hnd' : (s ++ [i]).Nodup ∧ ∀ j ∈ s ++ [i], j < m.length := ⟨List.nodup_append.2 ⟨hnd, by simp, by rintro a ha b hb; simp at hb; subst hb; exact fun e => his (e ▸ ha)⟩, by
     intro j hj; rcases List.mem_append.1 hj with h | h; exact hlt _ h; simp at h; subst h; exact hi⟩
    have HGO := hid hgo; have HND := hid hnd'; generalize keyAtV m i = kv at *; obtain ⟨XS, hXS⟩ : ∃ XS, s.map (keyAtV m) = XS := ⟨_, rfl⟩; have hXl : XS.length ≤ 1000000 := by rw [← hXS]; simp; omega
    rw [hXS] at hown; have HXS := hid hXS; have HOV := hid hov; have H2 := hid hb2; have HO := hid hown; clear hXS hov hb2 hown hgo hnd' hnd hlt; refine region_lift (by rintro ⟨a, w, h⟩; exact h) (by kernel_rfl) ?_; rw [foldWV]; simp only [List.setIfInBounds_toArray, List.set_cons_succ, List.set_cons_zero]; go_wp2_with fail
    refine ⟨⟨[], (by exact chA), by simp, by simp, by simp, by simp⟩, ?_⟩; intro w2 hc2 hs2; have C2 : Hid (Chg [W0.heap.size + 1] W w2) := hid (Chg.then (Chg.refl _ _) hc2 (by simp)); have D2 : Hid (Blk w2 w.heap.size [v] 77) := hid (Blk.chg H2.out C2.out (by simp; omega)); have DO : Hid (OwnW (W0.heap.size + 3) w2 v XS) := hid (Own.chg HO.out C2.out (fun g hg => by have := (Own.lt HO.out hg).1; simp; omega)); have DV : Hid (∃ e, w2 = over w e) := hid (Chg.ov HOV.out C2.out (by simp; omega)); clear hc2; have q20 := D2.out.cell 0 rfl; have g20 := D2.out.free 0; have l2 := D2.out.lt; have HS0 := hid hs0; have HS2 := hid hs2; clear hs0; refine wpIn_block ?_; refine region_lift (by rintro ⟨a, w, h⟩; simp [Exit.inBlock] at h) (by kernel_rfl) ?_
    go_wp2_with (
      at_builtin
      refine wpList_append' u32_elem wcs_len wcs_one rfl (.tmp 8) (.tmp 10) rfl (base := W0.heap.size + 3) (v := v) (ys := XS) (xs := [kv]) (Own.alloc DO.out _) rfl rfl (by exact szA) (by (repeat with_reducible refine Sl.drew ?_); exact Sl.one_new (y := kv) (by simp; try omega)) (by simp only [List.length_append, List.length_singleton]; unfold maxLen; omega) (by simp only [List.length_append, List.length_singleton]; omega) ?_; intro v' m hown' hv'; obtain ⟨av, cv, hve, _⟩ := Own.slice wcs_len hown'; subst hve; obtain ⟨n', hn'⟩ : ∃ n', (XS ++ [kv]).length = n' := ⟨_, rfl⟩; rw [hn'] at hown' hv' ⊢; clear hn'; refine gen_w ?_; intro W8 hW8; have E8 : Hid (Chg v.ownBlock.toList w2 W8) := hid (by rw [hW8]; exact Chg.trans (Chg.alloc (Chg.refl _ _) _) (chg_chg _ _ _)); have EO : Hid (OwnW (W0.heap.size + 3) W8 (.slice av n' cv) (XS ++ [kv])) := hid (by rw [hW8]; exact hown'); have hvl : ∀ g ∈ v.ownBlock.toList, W0.heap.size + 3 ≤ g := fun g hg => (Own.lt DO.out (by simpa using hg)).1; have E2 := hid (Blk.chg D2.out E8.out (fun hm => by have := hvl _ hm; have := HS0.out; omega)); have EV : Hid (∃ e, W8 = over w e) := hid (Chg.ov DV.out E8.out (fun g hg => by have := hvl _ hg; have := HS0.out; omega)); have HVL := hid hvl; clear hW8 hown' hv' hvl q20 g20 l2; have q20 := E2.out.cell 0 rfl; have g20 := E2.out.free 0; have l2 := E2.out.lt)
    have hs0 := HS0.out; have hv6 : (Value.slice av n' cv).ownBlock ≠ some w.heap.size := fun h => by have := (Own.lt EO.out h).1; omega
    refine ⟨trivial, ⟨?_, ⟨_, E2.out.set 0 _, ?_⟩, HND.out⟩, w.heap.size :: v.ownBlock.toList, ?_, ?_, ?_, ?_, ?_⟩
    · exact Chg.ov EV.out (Chg.setCell (F := [w.heap.size]) (Chg.refl _ _) (.inl (by simp)) _) (by simp)
    · rw [HGO.out, HXS.out]; exact Own.set_ne EO.out hv6 _
    · exact Chg.setCell (E8.out.mono (fun i hi => .inl (by simp [hi]))) (.inl (by simp)) _
    · intro hm; rcases List.mem_cons.1 hm with h | h; omega; have := HVL.out _ h; omega
    · intro hm; rcases List.mem_cons.1 hm with h | h; omega; have := HVL.out _ h; omega
    · intro hm; rcases List.mem_cons.1 hm with h | h; omega; have := HVL.out _ h; omega
    · intro k hk hm; simp at hk; rcases List.mem_cons.1 hm with h | h; omega; have := HVL.out _ h; omega
  · intro s W hI hnd hlt hall hDs hD; obtain ⟨hov, ⟨v, hb2, hown⟩, _⟩ := hI; have hp := seen_perm hnd hlt hall; obtain ⟨ks, hks⟩ : ∃ ks, s.map (keyAtV m) = ks := ⟨_, rfl⟩; have HP : Hid (ks.Perm (m.map (·.1))) := hid (by rw [← hks]; exact hp); rw [hks] at hown; have O1 := hid hov; have C2 := hid hb2; have HO := hid hown; clear hov hb2 hown hp hks hnd hlt hall; have q20 := C2.out.cell 0 rfl; have l2 := C2.out.lt; clear O0 B0 M0 P0; have HS0 := hid hs0; clear hs0; go_wp2_with fail
    refine gen_w ?_; intro W9 hW9; have X9 : Hid (Chg [] W W9) := hid (by rw [hW9]; exact (by exact chA)); clear hW9; have hs0 := HS0.out; have Z9 : Chg [W0.heap.size] W (W9.putObj W0.heap.size (.deferred none)) := Chg.then (X9.out.mono (by simp)) (chg_putObj W9 W0.heap.size (.deferred none) (F := [W0.heap.size]) (by simp)) (by simp); refine ret_mark (v := v) rfl ((X9.out.block _ hDs (by simp)).trans hD) ?_ ?_
    · simp [results, show Tryz.f96.results = #[.tmp 4] from rfl, go_sem]
    exact ⟨Chg.ov O1.out Z9 (by simp; omega), v, ks, rfl, HP.out, Own.mono (Own.chg HO.out Z9 (fun g hg => by have := (Own.lt HO.out hg).1; simp; omega)) (by omega)⟩
theorem collect_keysV {m : List (Nat × Value)} {mb pm : Nat} (w : World) (hM : MapAt w mb m) (hP : Blk w pm [.map (some mb)] 94) (hml : m.length ≤ 1000000) (h32 : ∀ x ∈ m, x.1 < 4294967296) :
    Calls Tryz.prog 68 #[.func (.func 70) #[] #[.pointer (some ⟨pm, 0, none⟩)]] w (KsResV w m) := by
  have HA := hid (appendSeq_keysV w hM hP hml h32); clear hM hP
  go_enter Tryz.func68, Tryz.ntmps68; go_wp2_with (go_at_call 96; refine HA.out.mono ?_; rintro _ _ ⟨⟨e, rfl⟩, v, ks, rfl, hp, ho⟩)
  go_ret
  exact ⟨⟨e, rfl⟩, v, ks, rfl, hp, ho⟩
theorem srtN_congrV {l l' : List Nat} (h : l.Perm l') : srtN l = srtN l' := by
 have h1 : (srtN l).Perm (srtN l') := (srtN_perm l).trans (h.trans (srtN_perm l').symm); refine List.Perm.eq_of_pairwise (le := fun x y => decide (x ≤ y) = true) ?_ ?_ ?_ h1
 · intro a b _ _ h2 h3; simp at h2 h3; omega
 · exact List.pairwise_mergeSort (fun a b c h1 h2 => by simp at *; omega) (fun a b => by simp; omega) l
 · exact List.pairwise_mergeSort (fun a b c h1 h2 => by simp at *; omega) (fun a b => by simp; omega) l'
def SerResV (w : World) (ks : List Nat) (en : Ending) (w' : World) : Prop := (∃ e, w' = over w e) ∧ ∃ v, en = .returned v ∧ OwnW w.heap.size w' v ks
theorem sorted_keysV {m : List (Nat × Value)} {mb pm : Nat} (w : World) (hM : MapAt w mb m) (hP : Blk w pm [.map (some mb)] 94) (hml : m.length ≤ 1000000) (h32 : ∀ x ∈ m, x.1 < 4294967296) :
    Calls Tryz.prog 43 #[.func (.func 70) #[] #[.pointer (some ⟨pm, 0, none⟩)]] w (SerResV w (srtN (m.map (·.1)))) := by
  have HA := hid (collect_keysV w hM hP hml h32); clear hM hP
  go_enter Tryz.func43, Tryz.ntmps43
  go_wp2_with (first
    | (go_at_call 68; refine HA.out.mono ?_; rintro _ _ ⟨⟨e, rfl⟩, v, ks, rfl, hp, ho⟩; have HO := hid ho; have HP := hid hp; clear ho hp)
    | (go_at_call 69; refine (sort_own HO.out (by have h1 := HP.out.length_eq; rw [h1]; simp; omega)).mono ?_; rintro _ w5 ⟨rfl, hc5, ho5⟩; have HC5 := hid hc5; have HO5 := hid ho5; clear hc5 ho5))
  go_ret
  refine ⟨Chg.ov ⟨e, rfl⟩ HC5.out (fun g hg => (Own.lt HO.out (by simpa using hg)).1), v, rfl, ?_⟩; rw [← srtN_congrV HP.out]; exact HO5.out
theorem keys_fnV (mb : Nat) (w : World) : Calls Tryz.prog 44 #[.map (some mb)] w (fun e w' => e = .returned (.func (.func 70) #[] #[.pointer (some ⟨w.heap.size, 0, none⟩)]) ∧ ∃ o, w' = over w o ∧ Blk w' w.heap.size [.map (some mb)] 94 ∧ w.heap.size < w'.heap.size) := by
 go_enter Tryz.func44, Tryz.ntmps44; go_wp2; go_ret
 refine ⟨rfl, ?_⟩; obtain ⟨o, ho⟩ : ∃ o, w.alloc (.cells #[.map (some mb)] 94) = over w o := ovA; exact ⟨o, ho, Blk.new' (by simp), by simp⟩
end
section
open Go.RowKit
attribute [local go_sem] odr cdr
abbrev encW : Nat → Value := fun k => .int .u32 (k : Nat)
structure FstM (m : List (Nat × Value)) (a b l : List Lf) : Prop where
 get : ∀ s, kGet m s = (minU a b l s).map encW
 nd : (m.map (·.1)).Nodup
 k32 : ∀ x ∈ m, x.1 < 4294967296
 len : m.length ≤ l.length
theorem FstM.nil {a b : List Lf} : FstM [] a b [] := ⟨fun _ => rfl, by simp, by simp, by simp⟩
theorem hit_f {a b : List Lf} {x : Lf} {s : Nat} (h : ¬ (x.s = s ∧ un a b x.s x.c = true)) : hit a b x s = false := by
 rw [Bool.eq_false_iff]; intro hh; exact h (hit_iff.1 hh)
theorem FstM.skip {m : List (Nat × Value)} {a b l : List Lf} (h : FstM m a b l) {x : Lf} (hu : un a b x.s x.c = false) : FstM m a b (l ++ [x]) :=
 ⟨fun s => by rw [minU_snoc, hit_f (fun hh => by rw [hu] at hh; cases hh.2)]; exact h.get s, h.nd, h.k32, by have := h.len; simp; omega⟩
theorem FstM.keep {m : List (Nat × Value)} {a b l : List Lf} (h : FstM m a b l) {x : Lf} {d : Nat} (hd : minU a b l x.s = some d) (hc : ¬ x.c < d) : FstM m a b (l ++ [x]) := by
 refine ⟨fun s => ?_, h.nd, h.k32, by have := h.len; simp; omega⟩; rw [minU_snoc]; split
 · rename_i hh
   obtain ⟨rfl, _⟩ := hit_iff.1 hh; rw [h.get, hd]; simp only [updM, if_neg hc]
 · exact h.get s
theorem FstM.put {m : List (Nat × Value)} {a b l : List Lf} (h : FstM m a b l) {x : Lf} (hx : x.s < 4294967296) (hu : un a b x.s x.c = true) (hd : ∀ d, minU a b l x.s = some d → x.c < d) : FstM (kPut m x.s (.int .u32 (x.c : Nat))) a b (l ++ [x]) := by
 refine ⟨fun s => ?_, kput_nodup h.nd _ _, fun y hy => ?_, ?_⟩
 · rw [kget_put, minU_snoc]; by_cases e : x.s = s
   · subst e; rw [if_pos rfl, if_pos (hit_iff.2 ⟨rfl, hu⟩)]; cases hq : minU a b l x.s with
     | none => rfl
     | some d => simp only [updM, if_pos (hd d hq)]; rfl
   · rw [if_neg e, if_neg (by rw [hit_f (fun hh => e hh.1)]; simp)]; exact h.get s
 · rcases kput_keys m x.s _ y.1 (List.mem_map_of_mem hy) with h1 | h1
   · rw [h1]; exact hx
   · obtain ⟨z, hz, h2⟩ := List.mem_map.1 h1; rw [← h2]; exact h.k32 z hz
 · have := kput_len m x.s (.int .u32 (x.c : Nat)); have := h.len; simp; omega
theorem FstM.keys {m : List (Nat × Value)} {a b : List Lf} (h : FstM m a b (a ++ b)) : srtN (m.map (·.1)) = idsU a b := by
 refine sort_uniq ?_ (idsU_sort a b) (fun s => ?_)
 · have h1 := srtN_sorted (m.map (·.1)); have h2 : (srtN (m.map (·.1))).Nodup := by rw [(srtN_perm _).nodup_iff]; exact h.nd
   rw [List.nodup_iff_pairwise_ne] at h2; exact List.Pairwise.imp₂ (fun _ _ h1 h2 => by omega) h1 h2
 · rw [(srtN_perm _).mem_iff, idsU_mem]; have hg := h.get s
   constructor
   · intro hs; cases hq : minU a b (a ++ b) s with
     | some d => rfl
     | none =>
      rw [hq] at hg; obtain ⟨x, hx, e⟩ := List.mem_map.1 hs; exact absurd e (kget_iff.1 hg x hx)
   · intro hs; obtain ⟨d, hd⟩ := Option.isSome_iff_exists.1 hs; rw [hd] at hg; apply Classical.byContradiction; intro hn; have : kGet m s = none := kget_iff.2 (fun x hx e => hn (List.mem_map.2 ⟨x, hx, e⟩)); rw [this] at hg; cases hg
theorem at_get {m : List ((Nat × Nat) × Value)} {l : List Lf} (h : IdxM m l) (s c : Nat) : ∃ (bx : Bool) (p1 p2 p3 p4 : Nat),
    (if true then (.tuple #[(kGet m (s, c)).getD zLf, .bool (kGet m (s, c)).isSome] : Value) else (kGet m (s, c)).getD zLf) = .tuple #[.agg #[.int .u32 (p1 : Nat), .int .u32 (p2 : Nat), .int .u32 (p3 : Nat), .int .u64 (p4 : Nat)], .bool bx] ∧ fnd l s c = if bx then some ⟨p1, p2, p3, p4⟩ else none := by
  rw [h s c]; cases hq : fnd l s c with
  | none => exact ⟨false, 0, 0, 0, 0, rfl, rfl⟩
  | some p => exact ⟨true, p.s, p.c, p.n, p.m, rfl, rfl⟩
theorem fst_get {m : List (Nat × Value)} {a b l : List Lf} (h : FstM m a b l) (s : Nat) : ∃ (bt : Bool) (d : Nat),
    (if true then (.tuple #[(kGet m s).getD (.int .u32 0), .bool (kGet m s).isSome] : Value) else (kGet m s).getD (.int .u32 0)) = .tuple #[.int .u32 (d : Nat), .bool bt] ∧ minU a b l s = if bt then some d else none := by
  rw [h.get s]; cases hq : minU a b l s with
  | none => exact ⟨false, 0, rfl, rfl⟩
  | some d => exact ⟨true, d, rfl, rfl⟩
theorem un_of {a b : List Lf} {s c : Nat} {bx by_ : Bool} {p q : Lf} (h1 : fnd a s c = if bx then some p else none) (h2 : fnd b s c = if by_ then some q else none) : un a b s c = !(bx && by_ && decide (p = q)) := by
 unfold un; rw [h1, h2]; cases bx <;> cases by_ <;> simp
 rw [Bool.eq_iff_iff]; simp
theorem SlW.at1 {w : World} {a : Option Addr} {cap : Nat} {xs : List Nat} (h : SlW w a cap xs) {k : Nat} (hk : k < xs.length) : ∃ b off, a = some ⟨b, off, none⟩ ∧ b < w.heap.size ∧ w.cell? ⟨b, off + k, none⟩ = some (.int .u32 (xs[k] : Nat)) := by
 obtain ⟨b, off, rfl, hb, hcell⟩ := h.rec_ k xs[k] (List.getElem?_eq_getElem hk); have h0 := hcell 0 _ rfl; rw [Nat.add_zero, Nat.mul_one] at h0; exact ⟨b, off, rfl, hb, h0⟩
theorem MapK.at_ {w : World} {b : Nat} {m : List (Nat × Value)} (h : MapK w b encW m) : MapAt w b m := h
theorem at_get2 {m : List ((Nat × Nat) × Value)} {l : List Lf} (h : IdxM m l) (s c : Nat) : ∃ (p1 p2 p3 p4 : Nat),
    (if false then (.tuple #[(kGet m (s, c)).getD zLf, .bool (kGet m (s, c)).isSome] : Value) else (kGet m (s, c)).getD zLf) = .agg #[.int .u32 (p1 : Nat), .int .u32 (p2 : Nat), .int .u32 (p3 : Nat), .int .u64 (p4 : Nat)] ∧ cntU l s c = p3 := by
  unfold cntU; rw [h s c]; cases hq : fnd l s c with
  | none => exact ⟨0, 0, 0, 0, rfl, rfl⟩
  | some p => exact ⟨p.s, p.c, p.n, p.m, rfl, rfl⟩
theorem fst_get2 {m : List (Nat × Value)} {a b : List Lf} (h : FstM m a b (a ++ b)) {s : Nat} (hs : s ∈ idsU a b) : ∃ d : Nat,
    (if false then (.tuple #[(kGet m s).getD (.int .u32 0), .bool (kGet m s).isSome] : Value) else (kGet m s).getD (.int .u32 0)) = .int .u32 (d : Nat) ∧ minU a b (a ++ b) s = some d := by
  obtain ⟨d, hd⟩ := Option.isSome_iff_exists.1 (idsU_mem.1 hs); rw [h.get s, hd]; exact ⟨d, rfl, rfl⟩
def lfEq (p q : Lf) : Bool := decide (p = q)
theorem leaf_eqlN (w : World) (a b c d a' b' c' d' : Nat) : (binOp .eql 65 (.agg #[.int .u32 (a : Nat), .int .u32 (b : Nat), .int .u32 (c : Nat), .int .u64 (d : Nat)]) (.agg #[.int .u32 (a' : Nat), .int .u32 (b' : Nat), .int .u32 (c' : Nat), .int .u64 (d' : Nat)])).run Tryz.prog w = .ok (.bool (lfEq ⟨a, b, c, d⟩ ⟨a', b', c', d'⟩)) w := by
 rw [leaf_eql]
 congr 2
 unfold lfEq; rw [Bool.eq_iff_iff]; simp only [Bool.and_eq_true, beq_iff_eq, decide_eq_true_eq, Lf.mk.injEq]; omega
structure ApaI (w : World) (p7 p8 mb1 mb2 N c8 : Nat) (a8 : Option Addr) (m : List (Nat × Value)) (m1 m2 : List ((Nat × Nat) × Value)) (l : List Lf) (wr : World) : Prop where
 mf : MapK wr p7 encW m
 al : OwnLf p8 wr (.slice a8 N c8) l
 ma : MapK wr mb1 atV m1
 mb : MapK wr mb2 atV m2
 ov : ∃ e, wr = over w e
theorem ApaI.chg {w wr W : World} {p7 p8 mb1 mb2 N c8 : Nat} {a8 : Option Addr} {m m' : List (Nat × Value)} {m1 m2 : List ((Nat × Nat) × Value)} {l : List Lf} {F : List Nat} (h : ApaI w p7 p8 mb1 mb2 N c8 a8 m m1 m2 l wr) (hc : Chg F wr W) (hF : ∀ g ∈ F, g = p7) (h7 : p7 < p8) (h71 : p7 ≠ mb1) (h72 : p7 ≠ mb2) (hw : w.heap.size ≤ p7) (hm : MapK W p7 encW m') : ApaI w p7 p8 mb1 mb2 N c8 a8 m' m1 m2 l W :=
 ⟨hm, Own.chg h.al hc (fun g hg hm => by have := (Own.lt h.al hg).1; have := hF g hm; omega), h.ma.chg hc (fun hm => h71 (hF _ hm).symm), h.mb.chg hc (fun hm => h72 (hF _ hm).symm), Chg.ov h.ov hc (fun g hg => by rw [hF g hg]; exact hw)⟩
theorem zero_u32 (w : World) : (zeroValue 31).run Tryz.prog w = .ok (.int .u32 0) w := by kernel_rfl
attribute [local go_sem high] leaf_eqlN
theorem apart_any (a b : List Lf) (ha : a.length ≤ 1000) (hb : b.length ≤ 1000) (wa : ∀ x ∈ a, x.wf) (wb : ∀ x ∈ b, x.wf) (a1 a2 : Option Addr) (c1 c2 : Nat) (w : World) (s1 : SlL w a1 c1 a) (s2 : SlL w a2 c2 b) :
    Calls Tryz.prog 17 #[.slice a1 a.length c1, .slice a2 b.length c2] w (LfsPost w (apL a b)) := by
  have hmk : ∀ W : World, (Instr.makeMap 94 none).run Tryz.prog W = .ok (.map (some W.heap.size)) (W.alloc (.map #[] 0)) := fun W => rfl; have HX1 := hid (fun (W : World) (h : ∃ e, W = over w e) => index_any a (by omega) a1 c1 W (Sl.ov s1 h)); have HX2 := hid (fun (W : World) (h : ∃ e, W = over w e) => index_any b (by omega) a2 c2 W (Sl.ov s2 h)); have HX3 := hid (fun (p : Nat) (W : World) (h : ∃ e, W = over w e) (q0 : W.cell? ⟨p, 0, none⟩ = some (.slice a1 a.length c1)) (q1 : W.cell? ⟨p, 1, none⟩ = some (.slice a2 b.length c2)) (hp : p < W.heap.size) => concat_any a b (by omega) (by omega) a1 a2 c1 c2 p W (Sl.ov s1 h) (Sl.ov s2 h) q0 q1 hp); obtain ⟨n1, hn1⟩ : ∃ n, a.length = n := ⟨_, rfl⟩; obtain ⟨n2, hn2⟩ : ∃ n, b.length = n := ⟨_, rfl⟩; rw [hn1] at HX1 HX3 ha; rw [hn2] at HX2 HX3 hb; have HN1 := hid hn1; have HN2 := hid hn2; rw [hn1, hn2]; clear s1 s2 hn1 hn2
  go_enter Tryz.func17, Tryz.ntmps17
  go_wp2_with (first
    | (go_at_call 41; (with_reducible refine (HX1.out _ ovA).mono ?_); rintro _ _ ⟨mb1, m1, rfl, ⟨e1, rfl⟩, hl1, hm1, hi1⟩; have HA1 := hid hm1; have HI1 := hid hi1; clear hm1 hi1)
    | (go_at_call 41; (with_reducible refine (HX2.out _ ovA).mono ?_); rintro _ _ ⟨mb2, m2, rfl, ⟨e2, rfl⟩, hl2, hm2, hi2⟩; have HB1 := hid hm2; have HI2 := hid hi2; clear hm2 hi2)
    | (go_at_call 42; (with_reducible refine (HX3.out _ _ ovA (Blk.cell (cs := [.slice a1 n1 c1, .slice a2 n2 c2]) (t := 23) (by exact blA) 0 rfl) (Blk.cell (cs := [.slice a1 n1 c1, .slice a2 n2 c2]) (t := 23) (by exact blA) 1 rfl) (by simp)).mono ?_); rintro _ _ ⟨v8, rfl, ⟨e8, rfl⟩, ho8⟩; obtain ⟨a8, c8, rfl, hsl8⟩ := Own.slice Lf.cs_len ho8; clear hsl8; obtain ⟨N, hN⟩ : ∃ N, (a ++ b).length = N := ⟨_, rfl⟩; rw [hN] at ho8 ⊢; have HO8 := hid ho8; have HN := hid hN; have HNL : Hid (N = n1 + n2) := hid (by rw [← hN, List.length_append, HN1.out, HN2.out]); clear ho8 hN))
  refine gen_w ?_; intro W7 hW7; obtain ⟨p7, hp7⟩ : ∃ p, p = w.heap.size + e1.heap.size + e2.heap.size := ⟨_, rfl⟩; obtain ⟨p8, hp8⟩ : ∃ p, p = p7 + 1 + 1 := ⟨_, rfl⟩; have l1 := HA1.out.lt; have l2 := HB1.out.lt; simp only [size_over] at l1 l2 hl1 hl2; have h78 : p7 < p8 := by omega
  have h71 : p7 ≠ mb1 := by omega
  have h72 : p7 ≠ mb2 := by omega
  have hw7 : w.heap.size ≤ p7 := by omega
  have I7 : Hid (ApaI w p7 p8 mb1 mb2 N c8 a8 [] m1 m2 (a ++ b) W7) := hid ⟨by rw [hW7]; exact MapK.ov (MapK.new' (w := over (over w e1) e2) encW (by simp only [size_over]; omega)) ovA, by rw [hW7]; exact Own.mono HO8.out (by simp only [World.size_alloc, size_over]; omega), by rw [hW7]; exact MapK.ov HA1.out ovA, by rw [hW7]; exact MapK.ov HB1.out ovA, by rw [hW7]; exact ovA⟩; have hNb : N ≤ 2000 := by have := HNL.out; omega
  rw [← hp7]; clear hW7 hp7 hp8 l1 l2 hl1 hl2 HA1 HB1 HO8 HX1 HX2 HX3 hmk
  go_loopw [31] (fun i wr => ∃ (k : Nat) (m : List (Nat × Value)), k ≤ N ∧ i = .int .i64 (k : Nat) ∧ FstM m a b ((a ++ b).take k) ∧ ApaI w p7 p8 mb1 mb2 N c8 a8 m m1 m2 (a ++ b) wr) (fun i _ => N - (intOf i).toNat)
  case atStart => exact ⟨0, [], Nat.zero_le _, rfl, by rw [List.take_zero]; exact FstM.nil, I7.out⟩
  case round =>
   obtain ⟨k, m, hk, rfl, hf, hI⟩ := hrel; have HI := hid hI; have HM := hid hI.mf; have HA := hid hI.ma; have HB := hid hI.mb; have g7 := hI.mf.lt; have hal := hI.al; rw [← HN.out] at hal; obtain ⟨a9, c9, hv9, hsl9⟩ := Own.slice Lf.cs_len hal; rw [HN.out] at hv9
   injection hv9 with v1 v2 v3
   subst v1 v3; clear hal v2; by_cases hlt : k < N
   · have hlt' : k < (a ++ b).length := by rw [HN.out]; exact hlt
     obtain ⟨cb, co, rfl, hcb, q0, q1, q2, q3⟩ := SlL.at_ hsl9 hlt'; have htk := List.take_succ_eq_append_getElem hlt'; have hwf : ((a ++ b)[k]'hlt').wf := by
      rcases List.mem_append.1 (List.getElem_mem hlt') with h | h
      · exact wa _ h
      · exact wb _ h
     obtain ⟨x, hx⟩ : ∃ x, (a ++ b)[k]'hlt' = x := ⟨_, rfl⟩; rw [hx] at q0 q1 q2 q3 htk hwf; have HTK := hid htk; obtain ⟨xs, xc, xn, xm⟩ := x; have hx32 : xs < 4294967296 := hwf.1; simp only at q0 q1 q2 q3; have hd : decide (k < N) = true := decide_eq_true hlt; obtain ⟨bx, x1, x2, x3, x4, hv1, hf1⟩ := at_get HI1.out xs xc; obtain ⟨bq, y1, y2, y3, y4, hv2, hf2⟩ := at_get HI2.out xs xc; obtain ⟨bt, d, hv3, hv3b⟩ := fst_get hf xs; have hun := un_of hf1 hf2; have HV1 := hid hv1; have HV2 := hid hv2; have HV3 := hid hv3; clear hv1 hv2 hv3 hf1 hf2 htk hwf hx hlt' hsl9 hI; cases bx
     · rw [Bool.false_and, Bool.false_and, Bool.not_false] at hun; cases bt
       · have HN := hid (FstM.put hf (x := ⟨xs, xc, xn, xm⟩) hx32 hun (by intro d' h'; rw [hv3b] at h'; simp at h')); clear hf hv3b; go_wp2_with (first | (at_lookup; refine wpList_klookup rfl (.tmp 41) (.tmp 42) 92 true rfl 97 65 key_at (by kernel_rfl) zLf (zero_leaf _) mb1 m1 rfl (MapK.chg (F := []) HA.out (by exact chA) (by simp)) (xs, xc) rfl _ HV1.out ?_) | (at_lookup; refine wpList_klookup rfl (.tmp 47) (.tmp 48) 92 true rfl 97 65 key_at (by kernel_rfl) zLf (zero_leaf _) mb2 m2 rfl (MapK.chg (F := []) HB.out (by exact chA) (by simp)) (xs, xc) rfl _ HV2.out ?_) | (at_lookup; refine wpList_klookup rfl (.tmp 62) (.tmp 64) 94 true rfl 31 31 (key_u32 (by kernel_rfl)) (by kernel_rfl) (.int .u32 0) (zero_u32 _) p7 m rfl (MapK.chg (F := []) HM.out (by exact chA) (by simp)) xs rfl _ HV3.out ?_) | (at_mapUpdate; refine wpList_kupdate rfl (.tmp 76) (.tmp 78) (.tmp 80) 94 rfl 31 31 (key_u32 (by kernel_rfl)) (by kernel_rfl) p7 m xs (.int .u32 (xc : Nat)) rfl rfl rfl (MapK.chg (F := []) HM.out (by exact chA) (by simp)) ?_; intro mt hm6; have HM6 := hid hm6; clear hm6))
         go_roundw
         case rel => exact ⟨k + 1, _, by omega, by go_num, by rw [HTK.out]; exact HN.out, ApaI.chg HI.out (F := [p7]) (by exact chA) (by simp) h78 h71 h72 hw7 HM6.out⟩
         case measure => (simp [intOf]; try omega)
       · by_cases hcd : xc < d
         · have HN := hid (FstM.put hf (x := ⟨xs, xc, xn, xm⟩) hx32 hun (by intro d' h'; rw [hv3b] at h'; simp at h'; subst h'; exact hcd)); have hdd : decide (xc < d) = true := decide_eq_true hcd; clear hf hv3b; go_wp2_with (first | (at_lookup; refine wpList_klookup rfl (.tmp 41) (.tmp 42) 92 true rfl 97 65 key_at (by kernel_rfl) zLf (zero_leaf _) mb1 m1 rfl (MapK.chg (F := []) HA.out (by exact chA) (by simp)) (xs, xc) rfl _ HV1.out ?_) | (at_lookup; refine wpList_klookup rfl (.tmp 47) (.tmp 48) 92 true rfl 97 65 key_at (by kernel_rfl) zLf (zero_leaf _) mb2 m2 rfl (MapK.chg (F := []) HB.out (by exact chA) (by simp)) (xs, xc) rfl _ HV2.out ?_) | (at_lookup; refine wpList_klookup rfl (.tmp 62) (.tmp 64) 94 true rfl 31 31 (key_u32 (by kernel_rfl)) (by kernel_rfl) (.int .u32 0) (zero_u32 _) p7 m rfl (MapK.chg (F := []) HM.out (by exact chA) (by simp)) xs rfl _ HV3.out ?_) | (at_mapUpdate; refine wpList_kupdate rfl (.tmp 76) (.tmp 78) (.tmp 80) 94 rfl 31 31 (key_u32 (by kernel_rfl)) (by kernel_rfl) p7 m xs (.int .u32 (xc : Nat)) rfl rfl rfl (MapK.chg (F := []) HM.out (by exact chA) (by simp)) ?_; intro mt hm6; have HM6 := hid hm6; clear hm6))
           go_roundw
           case rel => exact ⟨k + 1, _, by omega, by go_num, by rw [HTK.out]; exact HN.out, ApaI.chg HI.out (F := [p7]) (by exact chA) (by simp) h78 h71 h72 hw7 HM6.out⟩
           case measure => (simp [intOf]; try omega)
         · have HN := hid (FstM.keep hf (x := ⟨xs, xc, xn, xm⟩) (by rw [hv3b]; rfl) hcd); have hdd : decide (xc < d) = false := decide_eq_false hcd; clear hf hv3b; go_wp2_with (first | (at_lookup; refine wpList_klookup rfl (.tmp 41) (.tmp 42) 92 true rfl 97 65 key_at (by kernel_rfl) zLf (zero_leaf _) mb1 m1 rfl (MapK.chg (F := []) HA.out (by exact chA) (by simp)) (xs, xc) rfl _ HV1.out ?_) | (at_lookup; refine wpList_klookup rfl (.tmp 47) (.tmp 48) 92 true rfl 97 65 key_at (by kernel_rfl) zLf (zero_leaf _) mb2 m2 rfl (MapK.chg (F := []) HB.out (by exact chA) (by simp)) (xs, xc) rfl _ HV2.out ?_) | (at_lookup; refine wpList_klookup rfl (.tmp 62) (.tmp 64) 94 true rfl 31 31 (key_u32 (by kernel_rfl)) (by kernel_rfl) (.int .u32 0) (zero_u32 _) p7 m rfl (MapK.chg (F := []) HM.out (by exact chA) (by simp)) xs rfl _ HV3.out ?_))
           go_roundw
           case rel => exact ⟨k + 1, m, by omega, by go_num, by rw [HTK.out]; exact HN.out, ApaI.chg HI.out (F := []) (by exact chA) (by simp) h78 h71 h72 hw7 (MapK.chg (F := []) HM.out (by exact chA) (by simp))⟩
           case measure => (simp [intOf]; try omega)
     · cases bq
       · rw [Bool.and_false, Bool.false_and, Bool.not_false] at hun; cases bt
         · have HN := hid (FstM.put hf (x := ⟨xs, xc, xn, xm⟩) hx32 hun (by intro d' h'; rw [hv3b] at h'; simp at h')); clear hf hv3b; go_wp2_with (first | (at_lookup; refine wpList_klookup rfl (.tmp 41) (.tmp 42) 92 true rfl 97 65 key_at (by kernel_rfl) zLf (zero_leaf _) mb1 m1 rfl (MapK.chg (F := []) HA.out (by exact chA) (by simp)) (xs, xc) rfl _ HV1.out ?_) | (at_lookup; refine wpList_klookup rfl (.tmp 47) (.tmp 48) 92 true rfl 97 65 key_at (by kernel_rfl) zLf (zero_leaf _) mb2 m2 rfl (MapK.chg (F := []) HB.out (by exact chA) (by simp)) (xs, xc) rfl _ HV2.out ?_) | (at_lookup; refine wpList_klookup rfl (.tmp 62) (.tmp 64) 94 true rfl 31 31 (key_u32 (by kernel_rfl)) (by kernel_rfl) (.int .u32 0) (zero_u32 _) p7 m rfl (MapK.chg (F := []) HM.out (by exact chA) (by simp)) xs rfl _ HV3.out ?_) | (at_mapUpdate; refine wpList_kupdate rfl (.tmp 76) (.tmp 78) (.tmp 80) 94 rfl 31 31 (key_u32 (by kernel_rfl)) (by kernel_rfl) p7 m xs (.int .u32 (xc : Nat)) rfl rfl rfl (MapK.chg (F := []) HM.out (by exact chA) (by simp)) ?_; intro mt hm6; have HM6 := hid hm6; clear hm6))
           go_roundw
           case rel => exact ⟨k + 1, _, by omega, by go_num, by rw [HTK.out]; exact HN.out, ApaI.chg HI.out (F := [p7]) (by exact chA) (by simp) h78 h71 h72 hw7 HM6.out⟩
           case measure => (simp [intOf]; try omega)
         · by_cases hcd : xc < d
           · have HN := hid (FstM.put hf (x := ⟨xs, xc, xn, xm⟩) hx32 hun (by intro d' h'; rw [hv3b] at h'; simp at h'; subst h'; exact hcd)); have hdd : decide (xc < d) = true := decide_eq_true hcd; clear hf hv3b; go_wp2_with (first | (at_lookup; refine wpList_klookup rfl (.tmp 41) (.tmp 42) 92 true rfl 97 65 key_at (by kernel_rfl) zLf (zero_leaf _) mb1 m1 rfl (MapK.chg (F := []) HA.out (by exact chA) (by simp)) (xs, xc) rfl _ HV1.out ?_) | (at_lookup; refine wpList_klookup rfl (.tmp 47) (.tmp 48) 92 true rfl 97 65 key_at (by kernel_rfl) zLf (zero_leaf _) mb2 m2 rfl (MapK.chg (F := []) HB.out (by exact chA) (by simp)) (xs, xc) rfl _ HV2.out ?_) | (at_lookup; refine wpList_klookup rfl (.tmp 62) (.tmp 64) 94 true rfl 31 31 (key_u32 (by kernel_rfl)) (by kernel_rfl) (.int .u32 0) (zero_u32 _) p7 m rfl (MapK.chg (F := []) HM.out (by exact chA) (by simp)) xs rfl _ HV3.out ?_) | (at_mapUpdate; refine wpList_kupdate rfl (.tmp 76) (.tmp 78) (.tmp 80) 94 rfl 31 31 (key_u32 (by kernel_rfl)) (by kernel_rfl) p7 m xs (.int .u32 (xc : Nat)) rfl rfl rfl (MapK.chg (F := []) HM.out (by exact chA) (by simp)) ?_; intro mt hm6; have HM6 := hid hm6; clear hm6))
             go_roundw
             case rel => exact ⟨k + 1, _, by omega, by go_num, by rw [HTK.out]; exact HN.out, ApaI.chg HI.out (F := [p7]) (by exact chA) (by simp) h78 h71 h72 hw7 HM6.out⟩
             case measure => (simp [intOf]; try omega)
           · have HN := hid (FstM.keep hf (x := ⟨xs, xc, xn, xm⟩) (by rw [hv3b]; rfl) hcd); have hdd : decide (xc < d) = false := decide_eq_false hcd; clear hf hv3b; go_wp2_with (first | (at_lookup; refine wpList_klookup rfl (.tmp 41) (.tmp 42) 92 true rfl 97 65 key_at (by kernel_rfl) zLf (zero_leaf _) mb1 m1 rfl (MapK.chg (F := []) HA.out (by exact chA) (by simp)) (xs, xc) rfl _ HV1.out ?_) | (at_lookup; refine wpList_klookup rfl (.tmp 47) (.tmp 48) 92 true rfl 97 65 key_at (by kernel_rfl) zLf (zero_leaf _) mb2 m2 rfl (MapK.chg (F := []) HB.out (by exact chA) (by simp)) (xs, xc) rfl _ HV2.out ?_) | (at_lookup; refine wpList_klookup rfl (.tmp 62) (.tmp 64) 94 true rfl 31 31 (key_u32 (by kernel_rfl)) (by kernel_rfl) (.int .u32 0) (zero_u32 _) p7 m rfl (MapK.chg (F := []) HM.out (by exact chA) (by simp)) xs rfl _ HV3.out ?_))
             go_roundw
             case rel => exact ⟨k + 1, m, by omega, by go_num, by rw [HTK.out]; exact HN.out, ApaI.chg HI.out (F := []) (by exact chA) (by simp) h78 h71 h72 hw7 (MapK.chg (F := []) HM.out (by exact chA) (by simp))⟩
             case measure => (simp [intOf]; try omega)
       · by_cases he : (⟨x1, x2, x3, x4⟩ : Lf) = ⟨y1, y2, y3, y4⟩
         · rw [decide_eq_true he] at hun; have HN := hid (FstM.skip hf (x := ⟨xs, xc, xn, xm⟩) (by rw [hun]; rfl)); have hee : lfEq ⟨x1, x2, x3, x4⟩ ⟨y1, y2, y3, y4⟩ = true := decide_eq_true he; clear hf hv3b he; go_wp2_with (first | (at_lookup; refine wpList_klookup rfl (.tmp 41) (.tmp 42) 92 true rfl 97 65 key_at (by kernel_rfl) zLf (zero_leaf _) mb1 m1 rfl (MapK.chg (F := []) HA.out (by exact chA) (by simp)) (xs, xc) rfl _ HV1.out ?_) | (at_lookup; refine wpList_klookup rfl (.tmp 47) (.tmp 48) 92 true rfl 97 65 key_at (by kernel_rfl) zLf (zero_leaf _) mb2 m2 rfl (MapK.chg (F := []) HB.out (by exact chA) (by simp)) (xs, xc) rfl _ HV2.out ?_))
           go_roundw
           case rel => exact ⟨k + 1, m, by omega, by go_num, by rw [HTK.out]; exact HN.out, ApaI.chg HI.out (F := []) (by exact chA) (by simp) h78 h71 h72 hw7 (MapK.chg (F := []) HM.out (by exact chA) (by simp))⟩
           case measure => (simp [intOf]; try omega)
         · have hee : lfEq ⟨x1, x2, x3, x4⟩ ⟨y1, y2, y3, y4⟩ = false := decide_eq_false he; rw [decide_eq_false he, Bool.and_false, Bool.not_false] at hun; clear he; cases bt
           · have HN := hid (FstM.put hf (x := ⟨xs, xc, xn, xm⟩) hx32 hun (by intro d' h'; rw [hv3b] at h'; simp at h')); clear hf hv3b; go_wp2_with (first | (at_lookup; refine wpList_klookup rfl (.tmp 41) (.tmp 42) 92 true rfl 97 65 key_at (by kernel_rfl) zLf (zero_leaf _) mb1 m1 rfl (MapK.chg (F := []) HA.out (by exact chA) (by simp)) (xs, xc) rfl _ HV1.out ?_) | (at_lookup; refine wpList_klookup rfl (.tmp 47) (.tmp 48) 92 true rfl 97 65 key_at (by kernel_rfl) zLf (zero_leaf _) mb2 m2 rfl (MapK.chg (F := []) HB.out (by exact chA) (by simp)) (xs, xc) rfl _ HV2.out ?_) | (at_lookup; refine wpList_klookup rfl (.tmp 62) (.tmp 64) 94 true rfl 31 31 (key_u32 (by kernel_rfl)) (by kernel_rfl) (.int .u32 0) (zero_u32 _) p7 m rfl (MapK.chg (F := []) HM.out (by exact chA) (by simp)) xs rfl _ HV3.out ?_) | (at_mapUpdate; refine wpList_kupdate rfl (.tmp 76) (.tmp 78) (.tmp 80) 94 rfl 31 31 (key_u32 (by kernel_rfl)) (by kernel_rfl) p7 m xs (.int .u32 (xc : Nat)) rfl rfl rfl (MapK.chg (F := []) HM.out (by exact chA) (by simp)) ?_; intro mt hm6; have HM6 := hid hm6; clear hm6))
             go_roundw
             case rel => exact ⟨k + 1, _, by omega, by go_num, by rw [HTK.out]; exact HN.out, ApaI.chg HI.out (F := [p7]) (by exact chA) (by simp) h78 h71 h72 hw7 HM6.out⟩
             case measure => (simp [intOf]; try omega)
           · by_cases hcd : xc < d
             · have HN := hid (FstM.put hf (x := ⟨xs, xc, xn, xm⟩) hx32 hun (by intro d' h'; rw [hv3b] at h'; simp at h'; subst h'; exact hcd)); have hdd : decide (xc < d) = true := decide_eq_true hcd; clear hf hv3b; go_wp2_with (first | (at_lookup; refine wpList_klookup rfl (.tmp 41) (.tmp 42) 92 true rfl 97 65 key_at (by kernel_rfl) zLf (zero_leaf _) mb1 m1 rfl (MapK.chg (F := []) HA.out (by exact chA) (by simp)) (xs, xc) rfl _ HV1.out ?_) | (at_lookup; refine wpList_klookup rfl (.tmp 47) (.tmp 48) 92 true rfl 97 65 key_at (by kernel_rfl) zLf (zero_leaf _) mb2 m2 rfl (MapK.chg (F := []) HB.out (by exact chA) (by simp)) (xs, xc) rfl _ HV2.out ?_) | (at_lookup; refine wpList_klookup rfl (.tmp 62) (.tmp 64) 94 true rfl 31 31 (key_u32 (by kernel_rfl)) (by kernel_rfl) (.int .u32 0) (zero_u32 _) p7 m rfl (MapK.chg (F := []) HM.out (by exact chA) (by simp)) xs rfl _ HV3.out ?_) | (at_mapUpdate; refine wpList_kupdate rfl (.tmp 76) (.tmp 78) (.tmp 80) 94 rfl 31 31 (key_u32 (by kernel_rfl)) (by kernel_rfl) p7 m xs (.int .u32 (xc : Nat)) rfl rfl rfl (MapK.chg (F := []) HM.out (by exact chA) (by simp)) ?_; intro mt hm6; have HM6 := hid hm6; clear hm6))
               go_roundw
               case rel => exact ⟨k + 1, _, by omega, by go_num, by rw [HTK.out]; exact HN.out, ApaI.chg HI.out (F := [p7]) (by exact chA) (by simp) h78 h71 h72 hw7 HM6.out⟩
               case measure => (simp [intOf]; try omega)
             · have HN := hid (FstM.keep hf (x := ⟨xs, xc, xn, xm⟩) (by rw [hv3b]; rfl) hcd); have hdd : decide (xc < d) = false := decide_eq_false hcd; clear hf hv3b; go_wp2_with (first | (at_lookup; refine wpList_klookup rfl (.tmp 41) (.tmp 42) 92 true rfl 97 65 key_at (by kernel_rfl) zLf (zero_leaf _) mb1 m1 rfl (MapK.chg (F := []) HA.out (by exact chA) (by simp)) (xs, xc) rfl _ HV1.out ?_) | (at_lookup; refine wpList_klookup rfl (.tmp 47) (.tmp 48) 92 true rfl 97 65 key_at (by kernel_rfl) zLf (zero_leaf _) mb2 m2 rfl (MapK.chg (F := []) HB.out (by exact chA) (by simp)) (xs, xc) rfl _ HV2.out ?_) | (at_lookup; refine wpList_klookup rfl (.tmp 62) (.tmp 64) 94 true rfl 31 31 (key_u32 (by kernel_rfl)) (by kernel_rfl) (.int .u32 0) (zero_u32 _) p7 m rfl (MapK.chg (F := []) HM.out (by exact chA) (by simp)) xs rfl _ HV3.out ?_))
               go_roundw
               case rel => exact ⟨k + 1, m, by omega, by go_num, by rw [HTK.out]; exact HN.out, ApaI.chg HI.out (F := []) (by exact chA) (by simp) h78 h71 h72 hw7 (MapK.chg (F := []) HM.out (by exact chA) (by simp))⟩
               case measure => (simp [intOf]; try omega)
   · have hkN : (a ++ b).take k = a ++ b := List.take_of_length_le (by rw [HN.out]; omega); rw [hkN] at hf; have HK := hid hf.keys; have hml := hf.len; rw [HN.out] at hml; have HF := hid hf; have O1 := hid hI.ov; have hd : decide (k < N) = false := decide_eq_false hlt; clear hf hI hsl9 hkN
     go_wp2_with (first
       | (go_at_call 44; (with_reducible refine (keys_fnV p7 _).mono ?_); rintro _ w5 ⟨rfl, o, rfl, hb5, hl5⟩; have HB5 := hid hb5; clear hb5)
       | (go_at_call 43; refine (sorted_keysV (m := m) _ (HM.out.ov ⟨o, rfl⟩).at_ HB5.out (by omega) HF.out.k32).mono ?_; rintro _ w6 ⟨⟨e6, rfl⟩, v, rfl, ho⟩; rw [HK.out] at ho; obtain ⟨a6, c6, rfl, hsl6⟩ := Own.slice wcs_len ho; have HS6 := hid hsl6; clear ho hsl6))
     refine gen_w ?_; intro W6 hW6; have hL : (idsU a b).length ≤ N := by rw [← HK.out, srtN_len, List.length_map]; exact hml
     have S6 : Hid (SlW W6 a6 c6 (idsU a b)) := hid (by rw [hW6]; exact HS6.out); have M6 : Hid (MapK W6 p7 encW m) := hid (by rw [hW6]; exact MapK.ov HM.out ovA); have A6 : Hid (MapK W6 mb1 atV m1) := hid (by rw [hW6]; exact MapK.ov HA.out ovA); have O6 : Hid (∃ e, W6 = over w e) := hid (by rw [hW6]; exact (ovB O1.out)); have hW6s : w.heap.size ≤ W6.heap.size := by obtain ⟨e, he⟩ := O6.out; rw [he]; simp
     clear hW6 HS6 HB5 HM HA HB HI I7; have hfd : ∀ (x y z t : Int) (W : World), (Instr.field 65 (.agg #[.int .u32 x, .int .u32 y, .int .u32 z, .int .u64 t]) 2).run Tryz.prog W = .ok (.int .u32 z) W := fun _ _ _ _ _ => by kernel_rfl
     go_loopw [17, 86] (fun v i wr2 => ∃ j : Nat, j ≤ (idsU a b).length ∧ i = .int .i64 (j : Nat) ∧ OwnLf W6.heap.size wr2 v ((apL a b).take j) ∧ Ov W6 wr2) (fun _ i _ => (idsU a b).length - (intOf i).toNat)
     case atStart => exact ⟨0, Nat.zero_le _, rfl, Own.nil _, ovA⟩
     case round =>
      obtain ⟨j, hj, rfl, hown, ⟨e0, rfl⟩⟩ := hrel; obtain ⟨av, cv, rfl, hsl⟩ := Own.slice Lf.cs_len hown; clear hsl; have hal : (apL a b).length = (idsU a b).length := by unfold apL; rw [List.length_map]
      have htl : ((apL a b).take j).length = j := by rw [List.length_take, hal]; omega
      by_cases hlt2 : j < (idsU a b).length
      · obtain ⟨sb, so, rfl, hsb, q0⟩ := SlW.at1 S6.out hlt2; obtain ⟨s, hs⟩ : ∃ s, (idsU a b)[j]'hlt2 = s := ⟨_, rfl⟩; have hsm : s ∈ idsU a b := by rw [← hs]; exact List.getElem_mem hlt2
        obtain ⟨d, hv1, hd1⟩ := fst_get2 HF.out hsm; obtain ⟨p1, p2, p3, p4, hv2, hp3⟩ := at_get2 HI1.out s d; have htk : (apL a b).take (j + 1) = (apL a b).take j ++ [⟨s, d, p3, 0⟩] := by
         rw [List.take_succ_eq_append_getElem (by rw [hal]; exact hlt2)]
         congr 2
         unfold apL; rw [List.getElem_map, hs, hd1, ← hp3]; rfl
        rw [hs] at q0; have HV1 := hid hv1; have HV2 := hid hv2; have HTK := hid htk; have HOW := hid hown; have hdl : decide (j < (idsU a b).length) = true := decide_eq_true hlt2; have HTL := hid htl; rw [htl]; clear hv1 hv2 htk hown hs hsm hd1 hp3 htl hal
        go_wp2_with (first
          | (at_lookup; refine wpList_klookup rfl (.tmp 90) (.tmp 91) 94 false rfl 31 31 (key_u32 (by kernel_rfl)) (by kernel_rfl) (.int .u32 0) (zero_u32 _) p7 m rfl (MapK.chg (F := []) M6.out (by exact chA) (by simp)) s rfl _ HV1.out ?_)
          | (at_lookup; refine wpList_klookup rfl (.tmp 96) (.tmp 99) 92 false rfl 97 65 key_at (by kernel_rfl) zLf (zero_leaf _) mb1 m1 rfl (MapK.chg (F := []) A6.out (by exact chA) (by simp)) (s, d) rfl _ HV2.out ?_)
          | (at_builtin; refine wpList_append leaf_elem Lf.cs_len Lf.cs_one rfl (.tmp 93) (.tmp 103) rfl (w1 := over W6 e0) (B := W6) (base := W6.heap.size) (ys := (apL a b).take j) (xs := [⟨s, d, p3, 0⟩]) HOW.out (by rw [HTL.out]; rfl) rfl ovA ovA (Nat.le_refl _) (by simp) (by (repeat with_reducible refine Sl.drew ?_); exact Sl.one_new (y := (⟨s, d, p3, 0⟩ : Lf)) (by simp; try omega)) (by rw [HTL.out]; simp only [List.length_singleton]; unfold maxLen; omega) (by rw [HTL.out]; simp only [List.length_singleton]; omega) ?_; intro v' x' ho2 _ _; have HO2 := hid ho2; clear ho2))
        go_roundw
        case rel => exact ⟨j + 1, by omega, by go_num, by rw [HTK.out]; exact (by exact ownA HO2.out), ovA⟩
        case measure => (simp [intOf]; try omega)
      · obtain rfl : j = (idsU a b).length := by omega
        have hown2 : OwnLf W6.heap.size (over W6 e0) (.slice av ((apL a b).take (idsU a b).length).length cv) (apL a b) := by
         have h := hown; rw [show (apL a b).take (idsU a b).length = apL a b from List.take_of_length_le (by rw [hal]; exact Nat.le_refl _)] at h ⊢; exact h
        have HOW := hid hown2; clear hown hown2; go_wp2; go_ret
        exact ⟨_, rfl, (ovB O6.out), Own.mono HOW.out hW6s⟩
end
end Go.Proofs.YtnffcckhdedhpaaGreatDoor
