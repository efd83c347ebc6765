/- Reading samples to the end, or to where none is: plain; chunk.walk.each. -/
import Derived.Test.YtneeikjiabpjhaaGreatDoorChkG
import Derived.Test.YtneeikjiabpjhaaGreatDoorGF
import Derived.Test.YtneeikjiabpjhaaGreatDoorRng
namespace Go.Proofs.YtneeikjiabpjhaaGreatDoor
set_option linter.unusedVariables false
set_option linter.unusedSimpArgs false
open Go.RowKit
attribute [local go_sem] over_drew chg_drew

structure RunC (L : List Bool) (xs : List Sm) (er : Nat) : Prop where
  rd : ReadC L xs
  fin : er = 0 ∧ (bitsC En.zero xs).length = L.length ∨ er = 61 ∧ (bitsC En.zero xs).length < L.length ∧ getC L (bitsC En.zero xs).length (knowC En.zero xs) = ((0, 0), 0, En.zero, 61)
theorem ReadC.le {L : List Bool} {xs : List Sm} (h : ReadC L xs) : (bitsC En.zero xs).length ≤ L.length := by
  obtain ⟨r, hr⟩ := h.bits; rw [hr, List.length_append]; omega
theorem RunC.at_ {L : List Bool} {xs : List Sm} {er : Nat} (h : RunC L xs er) (hl : L.length ≤ 700000) {k : Nat} (hk : k < xs.length) :
    getC L (bitsC En.zero (xs.take k)).length (knowC En.zero (xs.take k)) = ((xs[k].t, xs[k].v), (((bitsC En.zero (xs.take (k + 1))).length : Nat) : Int), knowC En.zero (xs.take (k + 1)), 0) := by
  have hx := h.rd.wf
  have hln := h.rd.len
  have h1 := knowZ (xs := xs.take k) (fun s hs => hx s (List.mem_of_mem_take hs)) (by rw [List.length_take]; omega)
  have h2 := h.rd.good
  rw [← List.take_append_drop (k + 1) xs, goodC_app, takeC_get hk, goodC_snoc] at h2
  have h3 := hx xs[k] (List.getElem_mem hk)
  obtain ⟨r, hr⟩ := h.rd.bits
  have h4 := getC_laid (bitsC En.zero (xs.take k)) (bitsC (knowC En.zero (xs.take (k + 1))) (xs.drop (k + 1)) ++ r) h1.1 h1.2.1 h3.1 h3.2 h2.1.2
  have e1 : L = bitsC En.zero (xs.take k) ++ ((laid (knowC En.zero (xs.take k)) xs[k].t xs[k].v).1 ++ (bitsC (knowC En.zero (xs.take (k + 1))) (xs.drop (k + 1)) ++ r)) := by
    rw [hr]
    conv => lhs; rw [← List.take_append_drop (k + 1) xs]
    rw [bitsC_app, takeC_get hk, bitsC_snoc]
    simp only [List.append_assoc]
  rw [e1, h4, takeC_get hk, bitsC_snoc, knowC_snoc, List.length_append]
theorem RunC.front {L : List Bool} {xs : List Sm} {er : Nat} (h : RunC L xs er) (hl : L.length ≤ 700000) (k : Nat) : soundE (knowC En.zero (xs.take k)) = true ∧ (knowC En.zero (xs.take k)).wf ∧ (bitsC En.zero (xs.take k)).length ≤ L.length := by
  have h1 := knowZ (xs := xs.take k) (fun s hs => h.rd.wf s (List.mem_of_mem_take hs)) (by rw [List.length_take]; have := h.rd.len; omega)
  refine ⟨h1.1, h1.2.1, ?_⟩
  have h2 := h.rd.le
  rw [← List.take_append_drop k xs, bitsC_app, List.length_append] at h2
  omega
theorem RunC.lt {L : List Bool} {xs : List Sm} {er : Nat} (h : RunC L xs er) (hl : L.length ≤ 700000) {k : Nat} (hk : k < xs.length) : (bitsC En.zero (xs.take k)).length < (bitsC En.zero (xs.take (k + 1))).length ∧ (bitsC En.zero (xs.take (k + 1))).length ≤ L.length := by
  have h1 := h.front hl k
  have h2 := h.at_ hl hk
  have h3 := getC_ok h2 h1.2.1
  exact ⟨by have := h3.2.1; omega, (h.front hl (k + 1)).2.2⟩

abbrev wkC (a : Option Addr) (n c : Nat) (N at_ : Int) (e : En) (f : Nat) : List Value := [.slice a n c, .int .i64 N, .int .i64 at_, .int .i64 e.n, .int .i64 e.last, .int .i64 e.delta, .bool e.val.has, .int .u64 (e.val.prev : Nat), .int .u8 (e.val.lead : Nat), .int .u8 (e.val.width : Nat), .int .u16 (f : Nat)]
def smAt (xs : List Sm) (k : Nat) : Value := smV (xs.getD k ⟨0, 0⟩).t (xs.getD k ⟨0, 0⟩).v
theorem smAt_eq {xs : List Sm} {k : Nat} (h : k < xs.length) : smAt xs k = smV xs[k].t xs[k].v := by
  unfold smAt; rw [List.getD_eq_getElem?_getD, List.getElem?_eq_getElem h]; rfl

section
variable {A W : World} {p : Nat} {F : List Nat} {x0 x1 x2 x3 x4 x5 x6 x7 x8 x9 x10 v2 v3 v4 v5 v6 v7 v8 v9 v10 : Value} {lit : Obj} {e : World} {t : TypeId}
theorem wk_sets (h : Blk W p [x0, x1, x2, x3, x4, x5, x6, x7, x8, x9, x10] t) : Blk (over ((((((((((W.setCell ⟨p, 2, none⟩ v2).setCell ⟨p, 3, none⟩ v3).setCell ⟨p, 4, none⟩ v4).setCell ⟨p, 5, none⟩ v5).setCell ⟨p, 6, none⟩ v6).setCell ⟨p, 7, none⟩ v7).setCell ⟨p, 8, none⟩ v8).setCell ⟨p, 9, none⟩ v9).setCell ⟨p, 10, none⟩ v10).alloc lit) e) p [x0, x1, v2, v3, v4, v5, v6, v7, v8, v9, v10] t :=
  Blk.on (Blk.alloc (((((((((h.set 2 v2).set 3 v3).set 4 v4).set 5 v5).set 6 v6).set 7 v7).set 8 v8).set 9 v9).set 10 v10) _) _
theorem wk_chg (h : Chg F A W) (hp : p ∈ F) : Chg F A (((((((((W.setCell ⟨p, 2, none⟩ v2).setCell ⟨p, 3, none⟩ v3).setCell ⟨p, 4, none⟩ v4).setCell ⟨p, 5, none⟩ v5).setCell ⟨p, 6, none⟩ v6).setCell ⟨p, 7, none⟩ v7).setCell ⟨p, 8, none⟩ v8).setCell ⟨p, 9, none⟩ v9).setCell ⟨p, 10, none⟩ v10) :=
  Chg.setCell (Chg.setCell (Chg.setCell (Chg.setCell (Chg.setCell (Chg.setCell (Chg.setCell (Chg.setCell (Chg.setCell h (.inl hp) _) (.inl hp) _) (.inl hp) _) (.inl hp) _) (.inl hp) _) (.inl hp) _) (.inl hp) _) (.inl hp) _) (.inl hp) _
end
theorem each_res (tmps : Array Value) (w : World) : (results Tryz.f56 tmps).run Tryz.prog w = .ok (.tuple #[]) w := by
  simp [results, show Tryz.f56.results = #[] from rfl, go_sem]
set_option maxRecDepth 100000 in
set_option maxHeartbeats 8000000 in
theorem each_any (L : List Bool) (hl : L.length ≤ 700000) (a : Option Addr) (c : Nat) (xs : List Sm) (er : Nat) (hr : RunC L xs er) (p l : Nat) (J : Nat → World → Prop) (W : World)
    (hJ : ∀ k A B, J k A → Chg [p] A B → J k B) (hT : ∀ k A, J k A → TabW A) (hS : ∀ k A, J k A → SlB A a c (pack L))
    (hy : ∀ k W1, k < xs.length → J k W1 → Blk W1 p (wkC a (pack L).length c L.length (bitsC En.zero (xs.take (k + 1))).length (knowC En.zero (xs.take (k + 1))) 0) 136 → YieldAt Fence.wide 0 Tryz.prog l #[smAt xs k] W1 fun e W' => e = .returned (.bool true) ∧ J (k + 1) W' ∧ Blk W' p (wkC a (pack L).length c L.length (bitsC En.zero (xs.take (k + 1))).length (knowC En.zero (xs.take (k + 1))) 0) 136)
    (h0 : J 0 W) (hb : Blk W p (wkC a (pack L).length c L.length 0 En.zero 0) 136) :
    Calls Tryz.prog 56 #[.pointer (some ⟨p, 0, none⟩), .func (.yield l) #[] #[]] W (fun e W' => (∃ v, e = .returned v) ∧ J xs.length W' ∧ Blk W' p (if er = 0 then wkC a (pack L).length c L.length L.length (knowC En.zero xs) 0 else wkC a (pack L).length c L.length 0 En.zero er) 136) := by
  have HS := hid (fun W hW => sound_any (pack L) pack_lt (pack_len_le (by omega)) L.length (by omega) a c W hW)
  rw [sound_pack] at HS
  have HJ := hid hJ
  have HT := hid hT
  have HSl := hid hS
  have HY := hid hy
  have HB := hid hb
  have H0 := hid h0
  have HR := hid hr
  clear hJ hT hS hy h0 hb hr
  have r0 := HB.out.cell 0 rfl
  have r1 := HB.out.cell 1 rfl
  have l0 := HB.out.lt
  go_enter Tryz.func56, Tryz.ntmps56
  go_wp2_with (go_at_call 76; (with_reducible refine (HS.out _ (HSl.out _ _ H0.out)).mono ?_); rintro _ _ ⟨⟨e1, rfl⟩, rfl⟩)
  go_loopw [] (fun wr => ∃ (k : Nat), k ≤ xs.length ∧ J k wr ∧ Hid (Blk wr p (wkC a (pack L).length c L.length (bitsC En.zero (xs.take k)).length (knowC En.zero (xs.take k)) 0) 136)) (fun wr => L.length - (intOf ((wr.cell? ⟨p, 2, none⟩).getD (.int .i64 0))).toNat)
  case atStart => exact ⟨0, Nat.zero_le _, HJ.out _ _ _ H0.out (by exact chA), hid (by show Blk _ p (wkC a (pack L).length c L.length 0 En.zero 0) _; exact (by exact bxA HB.out))⟩
  case round =>
    obtain ⟨k, hk, hj, hbk⟩ := hrel
    clear r0 r1 l0 H0 HB
    have hfr := HR.out.front hl k
    by_cases hlt : k < xs.length
    · have hat := HR.out.at_ hl hlt
      have hll := HR.out.lt hl hlt
      obtain ⟨t', ht'⟩ : ∃ t', knowC En.zero (xs.take (k + 1)) = t' := ⟨_, rfl⟩
      obtain ⟨n', hn'⟩ : ∃ n', (bitsC En.zero (xs.take (k + 1))).length = n' := ⟨_, rfl⟩
      have HYk := hid (HY.out k)
      have hsm := smAt_eq hlt
      rw [ht', hn'] at HYk
      rw [ht', hn'] at hat
      rw [hn'] at hll
      have HT' := hid ht'
      have HN' := hid hn'
      generalize knowC En.zero (xs.take k) = t at *
      generalize (bitsC En.zero (xs.take k)).length = nk at *
      have HG := hid (fun W h1 h2 => cget_yes L hl a c (nk : Nat) (by unfold i64ok; omega) t hfr.2.1 hfr.1 W h1 h2)
      rw [hat] at HG
      have HG' : Hid (∀ W, TabW W → SlB W a c (pack L) → Calls Tryz.prog 77 #[bv a (pack L).length c L.length, .int .i64 (nk : Nat), t.v] W (Ret W (.tuple #[smV xs[k].t xs[k].v, .int .i64 (n' : Nat), t'.v, .int .u16 0]))) := HG
      rw [hsm] at HYk
      generalize xs[k] = x at *
      clear HG hat ht' hn' hsm hfr
      have HM : Hid (wr.cell? ⟨p, 2, none⟩ = some (.int .i64 (nk : Nat))) := hid (hbk.out.cell 2 rfl)
      have r0 := hbk.out.cell 0 rfl
      have g0 := hbk.out.free 0
      have r1 := hbk.out.cell 1 rfl
      have g1 := hbk.out.free 1
      have r2 := hbk.out.cell 2 rfl
      have g2 := hbk.out.free 2
      have r3 := hbk.out.cell 3 rfl
      have g3 := hbk.out.free 3
      have r4 := hbk.out.cell 4 rfl
      have g4 := hbk.out.free 4
      have r5 := hbk.out.cell 5 rfl
      have g5 := hbk.out.free 5
      have r6 := hbk.out.cell 6 rfl
      have g6 := hbk.out.free 6
      have r7 := hbk.out.cell 7 rfl
      have g7 := hbk.out.free 7
      have r8 := hbk.out.cell 8 rfl
      have g8 := hbk.out.free 8
      have r9 := hbk.out.cell 9 rfl
      have g9 := hbk.out.free 9
      have r10 := hbk.out.cell 10 rfl
      have g10 := hbk.out.free 10
      have l0 := hbk.out.lt
      go_wp2_with fail
      refine wp_region_over (by kernel_rfl) (by kernel_rfl) ?_
      repeat (go_big_quiet_step ((fail)))
      refine wpQuiet_nil ?_
      intro _ hw'
      obtain ⟨nq, rfl⟩ := hw'
      refine gen_w ?_
      intro W3 hW3
      have B3 : Hid (Blk W3 p (wkC a (pack L).length c L.length nk t 0) 136) := hid (by rw [hW3]; exact (by exact bxA hbk.out))
      have J3 : Hid (J k W3) := hid (HJ.out _ _ _ hj (by rw [hW3]; exact (by exact chA)))
      clear hW3 hj r0 r1 r2 r3 r4 r5 r6 r7 r8 r9 r10 g0 g1 g2 g3 g4 g5 g6 g7 g8 g9 g10 l0
      have r0 := B3.out.cell 0 rfl
      have g0 := B3.out.free 0
      have r1 := B3.out.cell 1 rfl
      have g1 := B3.out.free 1
      have r2 := B3.out.cell 2 rfl
      have g2 := B3.out.free 2
      have r3 := B3.out.cell 3 rfl
      have g3 := B3.out.free 3
      have r4 := B3.out.cell 4 rfl
      have g4 := B3.out.free 4
      have r5 := B3.out.cell 5 rfl
      have g5 := B3.out.free 5
      have r6 := B3.out.cell 6 rfl
      have g6 := B3.out.free 6
      have r7 := B3.out.cell 7 rfl
      have g7 := B3.out.free 7
      have r8 := B3.out.cell 8 rfl
      have g8 := B3.out.free 8
      have r9 := B3.out.cell 9 rfl
      have g9 := B3.out.free 9
      have r10 := B3.out.cell 10 rfl
      have g10 := B3.out.free 10
      have l0 := B3.out.lt
      go_wp2_with fail
      obtain ⟨F, hF⟩ : ∃ F, F = [p, W3.heap.size] := ⟨_, rfl⟩
      have i1 : p ∈ F := by rw [hF]; simp
      have i2 : W3.heap.size ∈ F := by rw [hF]; simp
      have n1 : ¬ p = W3.heap.size := by omega
      have n2 : ¬ W3.heap.size = p := by omega
      clear hF
      refine M2.wp_region_mix [15, 21, 24, 27, 30] 15 (by kernel_rfl) (by kernel_rfl) (by decide) ?_
      simp only [List.take_succ_cons, List.take_zero, List.drop_succ_cons, List.drop_zero]
      with_reducible refine M2.mixL_quiet 15 (by kernel_rfl) ?_
      simp only [List.take_succ_cons, List.take_zero, List.drop_succ_cons, List.drop_zero]
      repeat (go_big_quiet_step (fail))
      with_reducible refine wpQuiet_nil ?_
      with_reducible refine M2.mixL_nil ?_
      with_reducible refine M2.mixL_eff (by decide) ?_
      go_wp2_with ((go_at_call 77; (with_reducible refine (HG'.out _ (by exact tabA (HT.out _ _ J3.out)) (by exact slA (HSl.out _ _ J3.out))).mono ?_); rintro _ _ ⟨⟨e2, rfl⟩, rfl⟩))
      refine M2.MixQ.mk trivial ?_
      with_reducible refine M2.mixL_quiet 5 (by kernel_rfl) ?_
      simp only [List.take_succ_cons, List.take_zero, List.drop_succ_cons, List.drop_zero]
      repeat (go_big_quiet_step (fail))
      with_reducible refine wpQuiet_nil ?_
      with_reducible refine M2.mixL_eff (by decide) ?_
      go_wp2_with ((go_at_call 77; (with_reducible refine (HG'.out _ (by exact tabA (HT.out _ _ J3.out)) (by exact slA (HSl.out _ _ J3.out))).mono ?_); rintro _ _ ⟨⟨e2, rfl⟩, rfl⟩))
      refine M2.MixQ.mk trivial ?_
      with_reducible refine M2.mixL_quiet 2 (by kernel_rfl) ?_
      simp only [List.take_succ_cons, List.take_zero, List.drop_succ_cons, List.drop_zero]
      repeat (go_big_quiet_step (fail))
      with_reducible refine wpQuiet_nil ?_
      with_reducible refine M2.mixL_eff (by decide) ?_
      go_wp2_with ((go_at_call 77; (with_reducible refine (HG'.out _ (by exact tabA (HT.out _ _ J3.out)) (by exact slA (HSl.out _ _ J3.out))).mono ?_); rintro _ _ ⟨⟨e2, rfl⟩, rfl⟩))
      refine M2.MixQ.mk trivial ?_
      with_reducible refine M2.mixL_quiet 2 (by kernel_rfl) ?_
      simp only [List.take_succ_cons, List.take_zero, List.drop_succ_cons, List.drop_zero]
      repeat (go_big_quiet_step (fail))
      with_reducible refine wpQuiet_nil ?_
      with_reducible refine M2.mixL_eff (by decide) ?_
      go_wp2_with ((go_at_call 77; (with_reducible refine (HG'.out _ (by exact tabA (HT.out _ _ J3.out)) (by exact slA (HSl.out _ _ J3.out))).mono ?_); rintro _ _ ⟨⟨e2, rfl⟩, rfl⟩))
      refine M2.MixQ.mk trivial ?_
      with_reducible refine M2.mixL_quiet 2 (by kernel_rfl) ?_
      simp only [List.take_succ_cons, List.take_zero, List.drop_succ_cons, List.drop_zero]
      repeat (go_big_quiet_step (fail))
      with_reducible refine wpQuiet_nil ?_
      with_reducible refine M2.mixL_eff (by decide) ?_
      go_wp2_with ((go_at_call 77; (with_reducible refine (HG'.out _ (by exact tabA (HT.out _ _ J3.out)) (by exact slA (HSl.out _ _ J3.out))).mono ?_); rintro _ _ ⟨⟨e2, rfl⟩, rfl⟩))
      refine M2.MixQ.mk trivial ?_
      with_reducible refine M2.mixL_nil ?_
      refine gen_w ?_
      intro W5 hW5
      have B5 : Hid (Blk W5 p (wkC a (pack L).length c L.length n' t' 0) 136) := hid (by rw [hW5]; exact wk_sets B3.out)
      have J5 : Hid (J k W5) := hid (HJ.out _ _ _ J3.out (by rw [hW5]; exact Chg.on (Chg.alloc (wk_chg (Chg.refl _ _) (by simp)) _) _))
      have S5 : Hid (Blk W5 W3.heap.size [.int .i64 x.t, .int .u64 (x.v : Nat)] 34) := hid (by rw [hW5]; exact Blk.on (Blk.new' (by simp)) _)
      clear hW5 r0 r1 r2 r3 r4 r5 r6 r7 r8 r9 r10 g0 g1 g2 g3 g4 g5 g6 g7 g8 g9 g10 l0
      have r10 := B5.out.cell 10 rfl
      have s0 := S5.out.cell 0 rfl
      have s1 := S5.out.cell 1 rfl
      obtain ⟨fn, tmps, assign, body, hy, hR⟩ := HYk.out W5 hlt J5.out B5.out
      simp only [Exit.then]
      refine (‹∀ (a : Act) (w : World), Code.wp _ _ _ a w → _›) _ _ ?_
      rw [← wpIn_wide (n := 1)]
      gi_wp2
      refine hR.mono ?_
      rintro e W6 ⟨rfl, hj6, hb6⟩
      have HJ6 := hid hj6
      have HB6 := hid hb6
      clear hj6 hb6 hR hy
      gi_wp2
      go_roundw
      case rel => exact ⟨k + 1, by omega, HJ6.out, by rw [HT'.out, HN'.out]; exact HB6⟩
      case measure =>
        have q1 := HB6.out.cell 2 rfl
        rw [q1, HM.out]
        simp [intOf]; omega
    · obtain rfl : k = xs.length := by omega
      rw [List.take_length] at *
      have hfin := HR.out.fin
      rcases hfin with ⟨rfl, hfin⟩ | ⟨rfl, hlt2, hfin⟩
      · rw [hfin] at hbk
        have r0 := hbk.out.cell 0 rfl
        have g0 := hbk.out.free 0
        have r1 := hbk.out.cell 1 rfl
        have g1 := hbk.out.free 1
        have r2 := hbk.out.cell 2 rfl
        have g2 := hbk.out.free 2
        have r3 := hbk.out.cell 3 rfl
        have g3 := hbk.out.free 3
        have r4 := hbk.out.cell 4 rfl
        have g4 := hbk.out.free 4
        have r5 := hbk.out.cell 5 rfl
        have g5 := hbk.out.free 5
        have r6 := hbk.out.cell 6 rfl
        have g6 := hbk.out.free 6
        have r7 := hbk.out.cell 7 rfl
        have g7 := hbk.out.free 7
        have r8 := hbk.out.cell 8 rfl
        have g8 := hbk.out.free 8
        have r9 := hbk.out.cell 9 rfl
        have g9 := hbk.out.free 9
        have r10 := hbk.out.cell 10 rfl
        have g10 := hbk.out.free 10
        have l0 := hbk.out.lt
        go_wp2_with fail
        refine wp_region_over (by kernel_rfl) (by kernel_rfl) ?_
        repeat (go_big_quiet_step ((fail)))
        refine wpQuiet_nil ?_
        intro _ hw'
        obtain ⟨nq, rfl⟩ := hw'
        go_wp2_with fail
        refine ⟨rfl, _, each_res _ _, ⟨_, rfl⟩, HJ.out _ _ _ hj (by exact chA), (by exact bxA hbk.out)⟩
      · have HG := hid (fun W h1 h2 => cget_yes L hl a c ((bitsC En.zero xs).length : Nat) (by unfold i64ok; omega) (knowC En.zero xs) hfr.2.1 hfr.1 W h1 h2)
        rw [hfin] at HG
        generalize knowC En.zero xs = t at *
        generalize (bitsC En.zero xs).length = nk at *
        have HG' : Hid (∀ W, TabW W → SlB W a c (pack L) → Calls Tryz.prog 77 #[bv a (pack L).length c L.length, .int .i64 (nk : Nat), t.v] W (Ret W (.tuple #[.agg #[.int .i64 0, .int .u64 0], .int .i64 0, .agg #[.int .i64 0, .int .i64 0, .int .i64 0, .bool false, .int .u64 0, .int .u8 0, .int .u8 0], .int .u16 61]))) := HG
        clear HG hfin hfr
        have r0 := hbk.out.cell 0 rfl
        have g0 := hbk.out.free 0
        have r1 := hbk.out.cell 1 rfl
        have g1 := hbk.out.free 1
        have r2 := hbk.out.cell 2 rfl
        have g2 := hbk.out.free 2
        have r3 := hbk.out.cell 3 rfl
        have g3 := hbk.out.free 3
        have r4 := hbk.out.cell 4 rfl
        have g4 := hbk.out.free 4
        have r5 := hbk.out.cell 5 rfl
        have g5 := hbk.out.free 5
        have r6 := hbk.out.cell 6 rfl
        have g6 := hbk.out.free 6
        have r7 := hbk.out.cell 7 rfl
        have g7 := hbk.out.free 7
        have r8 := hbk.out.cell 8 rfl
        have g8 := hbk.out.free 8
        have r9 := hbk.out.cell 9 rfl
        have g9 := hbk.out.free 9
        have r10 := hbk.out.cell 10 rfl
        have g10 := hbk.out.free 10
        have l0 := hbk.out.lt
        go_wp2_with fail
        refine wp_region_over (by kernel_rfl) (by kernel_rfl) ?_
        repeat (go_big_quiet_step ((fail)))
        refine wpQuiet_nil ?_
        intro _ hw'
        obtain ⟨nq, rfl⟩ := hw'
        refine gen_w ?_
        intro W3 hW3
        have B3 : Hid (Blk W3 p (wkC a (pack L).length c L.length nk t 0) 136) := hid (by rw [hW3]; exact (by exact bxA hbk.out))
        have J3 : Hid (J xs.length W3) := hid (HJ.out _ _ _ hj (by rw [hW3]; exact (by exact chA)))
        clear hW3 hj r0 r1 r2 r3 r4 r5 r6 r7 r8 r9 r10 g0 g1 g2 g3 g4 g5 g6 g7 g8 g9 g10 l0
        have r0 := B3.out.cell 0 rfl
        have g0 := B3.out.free 0
        have r1 := B3.out.cell 1 rfl
        have g1 := B3.out.free 1
        have r2 := B3.out.cell 2 rfl
        have g2 := B3.out.free 2
        have r3 := B3.out.cell 3 rfl
        have g3 := B3.out.free 3
        have r4 := B3.out.cell 4 rfl
        have g4 := B3.out.free 4
        have r5 := B3.out.cell 5 rfl
        have g5 := B3.out.free 5
        have r6 := B3.out.cell 6 rfl
        have g6 := B3.out.free 6
        have r7 := B3.out.cell 7 rfl
        have g7 := B3.out.free 7
        have r8 := B3.out.cell 8 rfl
        have g8 := B3.out.free 8
        have r9 := B3.out.cell 9 rfl
        have g9 := B3.out.free 9
        have r10 := B3.out.cell 10 rfl
        have g10 := B3.out.free 10
        have l0 := B3.out.lt
        have n1 : ¬ p = W3.heap.size := by omega
        have n2 : ¬ W3.heap.size = p := by omega
        go_wp2_with fail
        refine M2.wp_region_mix [15, 21, 24, 27, 30] 15 (by kernel_rfl) (by kernel_rfl) (by decide) ?_
        simp only [List.take_succ_cons, List.take_zero, List.drop_succ_cons, List.drop_zero]
        with_reducible refine M2.mixL_quiet 15 (by kernel_rfl) ?_
        simp only [List.take_succ_cons, List.take_zero, List.drop_succ_cons, List.drop_zero]
        repeat (go_big_quiet_step (fail))
        with_reducible refine wpQuiet_nil ?_
        with_reducible refine M2.mixL_nil ?_
        with_reducible refine M2.mixL_eff (by decide) ?_
        go_wp2_with ((go_at_call 77; (with_reducible refine (HG'.out _ (by exact tabA (HT.out _ _ J3.out)) (by exact slA (HSl.out _ _ J3.out))).mono ?_); rintro _ _ ⟨⟨e2, rfl⟩, rfl⟩))
        refine M2.MixQ.mk trivial ?_
        with_reducible refine M2.mixL_quiet 5 (by kernel_rfl) ?_
        simp only [List.take_succ_cons, List.take_zero, List.drop_succ_cons, List.drop_zero]
        repeat (go_big_quiet_step (fail))
        with_reducible refine wpQuiet_nil ?_
        with_reducible refine M2.mixL_eff (by decide) ?_
        go_wp2_with ((go_at_call 77; (with_reducible refine (HG'.out _ (by exact tabA (HT.out _ _ J3.out)) (by exact slA (HSl.out _ _ J3.out))).mono ?_); rintro _ _ ⟨⟨e2, rfl⟩, rfl⟩))
        refine M2.MixQ.mk trivial ?_
        with_reducible refine M2.mixL_quiet 2 (by kernel_rfl) ?_
        simp only [List.take_succ_cons, List.take_zero, List.drop_succ_cons, List.drop_zero]
        repeat (go_big_quiet_step (fail))
        with_reducible refine wpQuiet_nil ?_
        with_reducible refine M2.mixL_eff (by decide) ?_
        go_wp2_with ((go_at_call 77; (with_reducible refine (HG'.out _ (by exact tabA (HT.out _ _ J3.out)) (by exact slA (HSl.out _ _ J3.out))).mono ?_); rintro _ _ ⟨⟨e2, rfl⟩, rfl⟩))
        refine M2.MixQ.mk trivial ?_
        with_reducible refine M2.mixL_quiet 2 (by kernel_rfl) ?_
        simp only [List.take_succ_cons, List.take_zero, List.drop_succ_cons, List.drop_zero]
        repeat (go_big_quiet_step (fail))
        with_reducible refine wpQuiet_nil ?_
        with_reducible refine M2.mixL_eff (by decide) ?_
        go_wp2_with ((go_at_call 77; (with_reducible refine (HG'.out _ (by exact tabA (HT.out _ _ J3.out)) (by exact slA (HSl.out _ _ J3.out))).mono ?_); rintro _ _ ⟨⟨e2, rfl⟩, rfl⟩))
        refine M2.MixQ.mk trivial ?_
        with_reducible refine M2.mixL_quiet 2 (by kernel_rfl) ?_
        simp only [List.take_succ_cons, List.take_zero, List.drop_succ_cons, List.drop_zero]
        repeat (go_big_quiet_step (fail))
        with_reducible refine wpQuiet_nil ?_
        with_reducible refine M2.mixL_eff (by decide) ?_
        go_wp2_with ((go_at_call 77; (with_reducible refine (HG'.out _ (by exact tabA (HT.out _ _ J3.out)) (by exact slA (HSl.out _ _ J3.out))).mono ?_); rintro _ _ ⟨⟨e2, rfl⟩, rfl⟩))
        refine M2.MixQ.mk trivial ?_
        with_reducible refine M2.mixL_nil ?_
        refine gen_w ?_
        intro W5 hW5
        have B5 : Hid (Blk W5 p (wkC a (pack L).length c L.length 0 En.zero 61) 136) := hid (by rw [hW5]; exact wk_sets B3.out)
        have J5 : Hid (J xs.length W5) := hid (HJ.out _ _ _ J3.out (by rw [hW5]; exact Chg.on (Chg.alloc (wk_chg (Chg.refl _ _) (by simp)) _) _))
        clear hW5 r0 r1 r2 r3 r4 r5 r6 r7 r8 r9 r10 g0 g1 g2 g3 g4 g5 g6 g7 g8 g9 g10 l0
        have r10 := B5.out.cell 10 rfl
        go_wp2_with fail
        refine ⟨rfl, _, each_res _ _, ⟨_, rfl⟩, HJ.out _ _ _ J5.out (by exact chA), (by exact bxA B5.out)⟩
end Go.Proofs.YtneeikjiabpjhaaGreatDoor
