/- Walks: FindBetween. -/
import Derived.Test.YtneeikjiabpjhaaDoorKE
namespace Go.Proofs.YtneeikjiabpjhaaDoor
set_option linter.unusedVariables false
set_option linter.unusedSimpArgs false
open Go.RowKit
attribute [local go_sem] over_drew chg_drew

theorem srok_wf {s : Sr} (h : SrOk s) : ∀ x ∈ s.all, x.wf := by
  intro x hx
  unfold Sr.all at hx
  rcases List.mem_append.1 hx with h1 | h1
  · obtain ⟨c, hc, hx⟩ := List.mem_flatten.1 h1
    exact (h.cl c hc).2.wf x hx
  · exact h.op.wf x h1
theorem betw_whole {l : List Sm} (h : ∀ x ∈ l, x.wf) : betw l (-9223372036854775808) 9223372036854775807 = l :=
  betw_all (fun x hx => (h x hx).1)
/-- What is known of the k-th series. -/
theorem laid_rise {W : World} {base b mb sz : Nat} {L : List Se} {ops : List (Nat × Sm)} {rs : List Rs} (h : Laid W base b mb sz L (layS sz ops) rs) {k id : Nat} {s : Sr} (hk : k < rs.length) (hK : LaidK L (layS sz ops) rs k id s) : RiseL s.all := by
  obtain ⟨h2, _, h4⟩ := h.at_ k hk
  rw [← hK.l hk, h4]
  exact all_rise ops _ (List.getElem_mem h2)
theorem out_slm {w W : World} {base : Nat} {v : Value} {l : List Sm} (h : OwnM base W v l) : ∃ a c, v = .slice a l.length c ∧ SlM W a c l := Own.slice Sm.cs_len h
set_option maxRecDepth 100000 in
set_option maxHeartbeats 4000000 in
theorem findBetween_any (size : Int) (hz : -9223372036854775808 ≤ size ∧ size ≤ 9223372036854775807) (xs : List Opr) (hx : ∀ o ∈ xs, o.wf) (a : Option Addr) (cap : Nat) (sp : Sp) (hsp : sp.wf) (t : Int) (ht : -9223372036854775808 ≤ t ∧ t ≤ 9223372036854775807) (w : World) (hT : TabW w) (hs : SlO w a cap xs) :
    Calls Tryd.prog 3 #[.int .i64 size, .slice a xs.length cap, sp.v, .int .i64 t] w (Ret w (.bool true)) := by
  obtain ⟨sf, st⟩ := sp
  obtain ⟨hf1, hf2⟩ : (-9223372036854775808 ≤ sf ∧ sf ≤ 9223372036854775807) ∧ (-9223372036854775808 ≤ st ∧ st ≤ 9223372036854775807) := ⟨⟨hsp.1, hsp.2.1⟩, hsp.2.2⟩
  have HKn := hid (fun W (hW : TabW W) => kn25_any W hW)
  have HBo := hid (fun (hl : xs.length ≤ 60) W (h1 : TabW W) (h2 : SlO W a cap xs) => both_any size hz xs hx hl a cap W h1 h2)
  obtain ⟨sz, hsz0⟩ : ∃ sz, lsz size = sz := ⟨_, rfl⟩
  rw [hsz0] at HBo
  obtain ⟨ops, hops⟩ : ∃ ops, opsL xs = ops := ⟨_, rfl⟩
  rw [hops] at HBo
  clear hz hx hsz0 hops
  by_cases hl : 60 < xs.length
  · have hd : decide (60 < xs.length) = true := decide_eq_true hl
    go_enter Tryd.func3, Tryd.ntmps3
    go_wp2_with (go_at_call 6; (with_reducible refine (HKn.out _ (by exact tabA hT)).mono ?_); rintro _ _ ⟨⟨e1, rfl⟩, rfl⟩)
    go_ret
    exact ⟨(by (try unfold Ov); exact ovA), rfl⟩
  · have hd : decide (60 < xs.length) = false := decide_eq_false hl
    have HBo2 := hid (HBo.out (by omega))
    go_enter Tryd.func3, Tryd.ntmps3
    go_wp2_with (first
      | (go_at_call 6; (with_reducible refine (HKn.out _ (by exact tabA hT)).mono ?_); rintro _ _ ⟨⟨e1, rfl⟩, rfl⟩)
      | (go_at_call 7
         (with_reducible refine (HBo2.out _ (by exact tabA hT) (by exact slA hs)).mono ?_)
         rintro _ W1 ⟨b, mb, L, p, v, rr, R, al, cl, rs, rfl, ⟨e2, hW1⟩, hLd, hsl, hrows, _, _⟩
         have O1 : Hid (∃ e, W1 = over w e) := hid (by rw [hW1]; exact (by (try unfold Ov); exact ovA))
         have P6 : Hid (Blk W1 w.heap.size [.int .i64 sf, .int .i64 st] 24) := hid (by rw [hW1]; exact Blk.on (Blk.on (Blk.new' rfl) _) _)
         have HL := hid hLd
         have HSL := hid hsl
         have HRW := hid hrows
         have HT1 := hid (TabW.ov hT O1.out)
         have hrl : rs.length ≤ 60 := by rw [hLd.len]; exact hLd.I.len
         clear hW1 hLd hsl hrows))
    have q60 := P6.out.cell 0 rfl
    have q61 := P6.out.cell 1 rfl
    have l6 := P6.out.lt
    go_loopw [12, 13, 14, 15, 16, 17] (fun i _ _ _ _ _ wr => ∃ k : Nat, k ≤ rs.length ∧ i = .int .i64 (k : Nat) ∧ Ov W1 wr) (fun i _ _ _ _ _ _ => rs.length - (intOf i).toNat)
    case atStart => exact ⟨0, Nat.zero_le _, rfl, (by (try unfold Ov); exact ovA)⟩
    case round =>
      obtain ⟨k, hk, rfl, ⟨e0, rfl⟩⟩ := hrel
      by_cases hlt : k < rs.length
      · obtain ⟨bl, off, rfl, hbl, x0, x1⟩ := SlR.at_ HSL.out hlt
        obtain ⟨id, s, hK⟩ := HL.out.k hlt
        have hrise := laid_rise HL.out hlt hK
        have hwf := srok_wf hK.ok
        have hrow := HRW.out _ (List.getElem_mem hlt)
        have hrl2 := hK.l hlt
        have hnid := hK.nid hlt
        have hall := hK.all
        obtain ⟨r, hr⟩ : ∃ r, rs[k]'hlt = r := ⟨_, rfl⟩
        rw [hr] at x0 x1 hrow hrl2 hnid
        rw [hnid] at x0
        have HBt := hid (fun (f t : Int) W (hW : ∃ e, W = over W1 e) => between_any (bk_ov HL.out.bk hW) (TabW.ov HT1.out hW) id hK.get hrise (by have := hK.cl; omega) (by omega) f t)
        obtain ⟨l, hll⟩ : ∃ l, s.all = l := ⟨_, rfl⟩
        rw [hll] at HBt hrise hwf hall hrl2
        rw [hrl2] at x1 hrow
        have hBw := HBt.out (-9223372036854775808) 9223372036854775807
        rw [betw_whole hwf] at hBw
        have HBw := hid hBw
        have hBs := HBt.out sf st
        have HMem := hid (fun x (hx : x ∈ betw l sf st) => betw_mem hx)
        have hql : (betw l sf st).length ≤ 60 := Nat.le_trans (List.length_filter_le _ _) hall
        have HCut : Hid (sf ≤ t → t < st → betw l sf t ++ betw l (t + 1) st = betw l sf st) := hid (fun h1 h2 => betw_cut hrise h1 h2)
        have hp1l : (betw l sf t).length ≤ 60 := Nat.le_trans (List.length_filter_le _ _) hall
        have hp2l : (betw l (t + 1) st).length ≤ 60 := Nat.le_trans (List.length_filter_le _ _) hall
        have HB1 := hid (HBt.out sf t)
        have HB2 := hid (HBt.out (t + 1) st)
        obtain ⟨q, hq⟩ : ∃ q, betw l sf st = q := ⟨_, rfl⟩
        obtain ⟨p1, hp1⟩ : ∃ p1, betw l sf t = p1 := ⟨_, rfl⟩
        obtain ⟨p2, hp2⟩ : ∃ p2, betw l (t + 1) st = p2 := ⟨_, rfl⟩
        rw [hq] at hBs HMem hql HCut
        rw [hp1] at HCut hp1l HB1
        rw [hp2] at HCut hp2l HB2
        have HBs := hid hBs
        have HSq : Hid (∀ A C B D W, SlM W A C q → SlM W B D q → Calls Tryd.prog 9 #[.slice A q.length C, .slice B q.length D] W (Ret W (.bool true))) := hid (fun A C B D W h1 h2 => by
          have k := rcsame_any q q (by omega) A C B D W h1 h2
          rwa [decide_eq_true rfl] at k)
        have HSl : Hid (∀ A C B D W, SlM W A C l → SlM W B D l → Calls Tryd.prog 9 #[.slice A l.length C, .slice B l.length D] W (Ret W (.bool true))) := hid (fun A C B D W h1 h2 => by
          have k := rcsame_any l l (by omega) A C B D W h1 h2
          rwa [decide_eq_true rfl] at k)
        have HRO := hid hrow
        have hdl : decide (k < rs.length) = true := decide_eq_true hlt
        clear hK hrise hwf hrow hr hnid hll hrl2 hBw hBs HBt hq hp1 hp2
        by_cases hc1 : sf ≤ t
        · have hdc1 : decide (sf ≤ t) = true := decide_eq_true hc1
          by_cases hc2 : t < st
          · have hdc2 : decide (t < st) = true := decide_eq_true hc2
            go_wp2_with (first
              | (go_at_call 8
                 (with_reducible refine (HBw.out _ (by (try unfold Ov); exact ovA)).mono ?_)
                 rintro _ _ ⟨⟨e4, rfl⟩, v4, rfl, o4⟩
                 obtain ⟨a4, c4, rfl, s4⟩ := Own.slice Sm.cs_len o4
                 have S4 := hid s4
                 clear o4 s4 HBw)
              | (go_at_call 8
                 (with_reducible refine (HBs.out _ (by (try unfold Ov); exact ovA)).mono ?_)
                 rintro _ W3 ⟨⟨e5, hW3⟩, v5, rfl, o5⟩
                 obtain ⟨a5, c5, rfl, s5⟩ := Own.slice Sm.cs_len o5
                 have O3 : Hid (∃ e, W3 = over W1 e) := hid (by rw [hW3]; exact (by (try unfold Ov); exact ovA))
                 have T4 : Hid (SlM W3 a4 c4 l) := hid (by rw [hW3]; exact (by exact slA S4.out))
                 have T5 := hid s5
                 have T6 : Hid (Blk W3 w.heap.size [.int .i64 sf, .int .i64 st] 24) := hid (by obtain ⟨e, he⟩ := O3.out; rw [he]; exact Blk.on P6.out e)
                 have TR : Hid (SlM W3 r.a r.c l) := hid (Sl.ov HRO.out O3.out)
                 have t60 := T6.out.cell 0 rfl
                 have t61 := T6.out.cell 1 rfl
                 have tl6 := T6.out.lt
                 obtain ⟨z3, hz3⟩ := O3.out
                 have y1 : W3.cell? ⟨bl, off + k * 2 + 1, none⟩ = some (.slice r.a l.length r.c) := by rw [hz3, cell_over _ _ _ _ hbl]; exact x1
                 have hbl3 : bl < W3.heap.size := by rw [hz3]; simp; omega
                 clear o5 s5 HBs hW3 hz3 z3 q60 q61 l6 x0 x1)
              | (go_at_call 8
                 (with_reducible refine (HB1.out _ (by (try unfold Ov); exact ovB O3.out)).mono ?_)
                 rintro _ _ ⟨⟨e6, rfl⟩, v6, rfl, o6⟩
                 obtain ⟨a6, c6, rfl, s6⟩ := Own.slice Sm.cs_len o6
                 have S6 := hid s6
                 clear o6 s6 HB1)
              | (at_builtin
                 refine wpList_append sample_elem Sm.cs_len Sm.cs_one rfl (.tmp 64) (.tmp 71) rfl (w1 := W3) (B := W3) (base := W3.heap.size) (ys := []) (xs := p1) (Own.nil W3) rfl rfl (by (try unfold Ov); exact ovA) (by (try unfold Ov); exact ovA) (Nat.le_refl _) (Nat.le_refl _) (by exact slA S6.out) (by simp only [List.length_nil]; unfold maxLen; omega) (by simp only [List.length_nil]; omega) ?_
                 intro v7 x7 ho7 _ _
                 rw [List.nil_append] at ho7
                 have HO7 := hid ho7
                 clear ho7 S6)
              | (go_at_call 8
                 (with_reducible refine (HB2.out _ (by (try unfold Ov); exact ovB O3.out)).mono ?_)
                 rintro _ _ ⟨⟨e8, rfl⟩, v8, rfl, o8⟩
                 obtain ⟨a8, c8, rfl, s8⟩ := Own.slice Sm.cs_len o8
                 have S8 := hid s8
                 clear o8 s8 HB2)
              | (at_builtin
                 refine wpList_append sample_elem Sm.cs_len Sm.cs_one rfl (.tmp 73) (.tmp 81) rfl (w1 := over W3 x7) (B := W3) (base := W3.heap.size) (ys := p1) (xs := p2) HO7.out rfl rfl (by (try unfold Ov); exact ovA) (by (try unfold Ov); exact ovA) (Nat.le_refl _) (by simp) (by exact slA S8.out) (by unfold maxLen; omega) (by omega) ?_
                 intro v9 x9 ho9 _ _
                 rw [HCut.out hc1 hc2] at ho9
                 obtain ⟨a9, c9, rfl, s9⟩ := Own.slice Sm.cs_len ho9
                 have S9 := hid s9
                 clear ho9 s9 HO7 S8)
              | (go_at_call 9; (with_reducible refine (HSq.out _ _ _ _ _ (by exact slA S9.out) (by exact slA T5.out)).mono ?_); rintro _ _ ⟨⟨e10, rfl⟩, rfl⟩))
            go_loopw [17] (fun j wr => ∃ m : Nat, m ≤ q.length ∧ j = .int .i64 (m : Nat) ∧ Ov W3 wr) (fun j _ => q.length - (intOf j).toNat)
            case atStart => exact ⟨0, Nat.zero_le _, rfl, (by (try unfold Ov); exact ovA)⟩
            case round =>
              obtain ⟨m, hm, rfl, ⟨e12, rfl⟩⟩ := hrel
              by_cases hmq : m < q.length
              · obtain ⟨cb, co, hca, hcb, r0, r1⟩ := SlM.at_ T5.out hmq
                obtain ⟨g1, g2⟩ := HMem.out _ (List.getElem_mem hmq)
                obtain ⟨x, hx⟩ : ∃ x, q[m]'hmq = x := ⟨_, rfl⟩
                rw [hx] at r0 g1 g2
                subst hca
                have hd1 : decide (x.t < sf) = false := decide_eq_false (by omega)
                have hd2 : decide (st < x.t) = false := decide_eq_false (by omega)
                have hd3 : decide (m < q.length) = true := decide_eq_true hmq
                clear hx r1 g1 g2
                go_wp2
                refine wp_region_over (by kernel_rfl) (by kernel_rfl) ?_
                repeat (go_big_quiet_step ((fail)))
                refine wpQuiet_nil ?_
                intro _ hw'
                obtain ⟨nq, rfl⟩ := hw'
                go_wp2
                go_roundw
                case rel => exact ⟨m + 1, by omega, by go_num, (by (try unfold Ov); exact ovA)⟩
                case measure => (simp [intOf]; try omega)
              · obtain rfl : m = q.length := by omega
                go_wp2_with (go_at_call 9; (with_reducible refine (HSl.out _ _ _ _ _ (by exact slA T4.out) (by exact slA TR.out)).mono ?_); rintro _ _ ⟨⟨e13, rfl⟩, rfl⟩)
                go_roundw
                case rel => exact ⟨k + 1, by omega, by go_num, (by (try unfold Ov); exact ovB O3.out)⟩
                case measure => (simp [intOf]; try omega)
          · have hdc2 : decide (t < st) = false := decide_eq_false hc2
            go_wp2_with (first
              | (go_at_call 8
                 (with_reducible refine (HBw.out _ (by (try unfold Ov); exact ovA)).mono ?_)
                 rintro _ _ ⟨⟨e4, rfl⟩, v4, rfl, o4⟩
                 obtain ⟨a4, c4, rfl, s4⟩ := Own.slice Sm.cs_len o4
                 have S4 := hid s4
                 clear o4 s4 HBw)
              | (go_at_call 8
                 (with_reducible refine (HBs.out _ (by (try unfold Ov); exact ovA)).mono ?_)
                 rintro _ W3 ⟨⟨e5, hW3⟩, v5, rfl, o5⟩
                 obtain ⟨a5, c5, rfl, s5⟩ := Own.slice Sm.cs_len o5
                 have O3 : Hid (∃ e, W3 = over W1 e) := hid (by rw [hW3]; exact (by (try unfold Ov); exact ovA))
                 have T4 : Hid (SlM W3 a4 c4 l) := hid (by rw [hW3]; exact (by exact slA S4.out))
                 have T5 := hid s5
                 have T6 : Hid (Blk W3 w.heap.size [.int .i64 sf, .int .i64 st] 24) := hid (by obtain ⟨e, he⟩ := O3.out; rw [he]; exact Blk.on P6.out e)
                 have TR : Hid (SlM W3 r.a r.c l) := hid (Sl.ov HRO.out O3.out)
                 have t60 := T6.out.cell 0 rfl
                 have t61 := T6.out.cell 1 rfl
                 have tl6 := T6.out.lt
                 obtain ⟨z3, hz3⟩ := O3.out
                 have y1 : W3.cell? ⟨bl, off + k * 2 + 1, none⟩ = some (.slice r.a l.length r.c) := by rw [hz3, cell_over _ _ _ _ hbl]; exact x1
                 have hbl3 : bl < W3.heap.size := by rw [hz3]; simp; omega
                 clear o5 s5 HBs hW3 hz3 z3 q60 q61 l6 x0 x1))
            go_loopw [17] (fun j wr => ∃ m : Nat, m ≤ q.length ∧ j = .int .i64 (m : Nat) ∧ Ov W3 wr) (fun j _ => q.length - (intOf j).toNat)
            case atStart => exact ⟨0, Nat.zero_le _, rfl, (by (try unfold Ov); exact ovA)⟩
            case round =>
              obtain ⟨m, hm, rfl, ⟨e12, rfl⟩⟩ := hrel
              by_cases hmq : m < q.length
              · obtain ⟨cb, co, hca, hcb, r0, r1⟩ := SlM.at_ T5.out hmq
                obtain ⟨g1, g2⟩ := HMem.out _ (List.getElem_mem hmq)
                obtain ⟨x, hx⟩ : ∃ x, q[m]'hmq = x := ⟨_, rfl⟩
                rw [hx] at r0 g1 g2
                subst hca
                have hd1 : decide (x.t < sf) = false := decide_eq_false (by omega)
                have hd2 : decide (st < x.t) = false := decide_eq_false (by omega)
                have hd3 : decide (m < q.length) = true := decide_eq_true hmq
                clear hx r1 g1 g2
                go_wp2
                refine wp_region_over (by kernel_rfl) (by kernel_rfl) ?_
                repeat (go_big_quiet_step ((fail)))
                refine wpQuiet_nil ?_
                intro _ hw'
                obtain ⟨nq, rfl⟩ := hw'
                go_wp2
                go_roundw
                case rel => exact ⟨m + 1, by omega, by go_num, (by (try unfold Ov); exact ovA)⟩
                case measure => (simp [intOf]; try omega)
              · obtain rfl : m = q.length := by omega
                go_wp2_with (go_at_call 9; (with_reducible refine (HSl.out _ _ _ _ _ (by exact slA T4.out) (by exact slA TR.out)).mono ?_); rintro _ _ ⟨⟨e13, rfl⟩, rfl⟩)
                go_roundw
                case rel => exact ⟨k + 1, by omega, by go_num, (by (try unfold Ov); exact ovB O3.out)⟩
                case measure => (simp [intOf]; try omega)
        · have hdc1 : decide (sf ≤ t) = false := decide_eq_false hc1
          go_wp2_with (first
            | (go_at_call 8
               (with_reducible refine (HBw.out _ (by (try unfold Ov); exact ovA)).mono ?_)
               rintro _ _ ⟨⟨e4, rfl⟩, v4, rfl, o4⟩
               obtain ⟨a4, c4, rfl, s4⟩ := Own.slice Sm.cs_len o4
               have S4 := hid s4
               clear o4 s4 HBw)
            | (go_at_call 8
               (with_reducible refine (HBs.out _ (by (try unfold Ov); exact ovA)).mono ?_)
               rintro _ W3 ⟨⟨e5, hW3⟩, v5, rfl, o5⟩
               obtain ⟨a5, c5, rfl, s5⟩ := Own.slice Sm.cs_len o5
               have O3 : Hid (∃ e, W3 = over W1 e) := hid (by rw [hW3]; exact (by (try unfold Ov); exact ovA))
               have T4 : Hid (SlM W3 a4 c4 l) := hid (by rw [hW3]; exact (by exact slA S4.out))
               have T5 := hid s5
               have T6 : Hid (Blk W3 w.heap.size [.int .i64 sf, .int .i64 st] 24) := hid (by obtain ⟨e, he⟩ := O3.out; rw [he]; exact Blk.on P6.out e)
               have TR : Hid (SlM W3 r.a r.c l) := hid (Sl.ov HRO.out O3.out)
               have t60 := T6.out.cell 0 rfl
               have t61 := T6.out.cell 1 rfl
               have tl6 := T6.out.lt
               obtain ⟨z3, hz3⟩ := O3.out
               have y1 : W3.cell? ⟨bl, off + k * 2 + 1, none⟩ = some (.slice r.a l.length r.c) := by rw [hz3, cell_over _ _ _ _ hbl]; exact x1
               have hbl3 : bl < W3.heap.size := by rw [hz3]; simp; omega
               clear o5 s5 HBs hW3 hz3 z3 q60 q61 l6 x0 x1))
          go_loopw [17] (fun j wr => ∃ m : Nat, m ≤ q.length ∧ j = .int .i64 (m : Nat) ∧ Ov W3 wr) (fun j _ => q.length - (intOf j).toNat)
          case atStart => exact ⟨0, Nat.zero_le _, rfl, (by (try unfold Ov); exact ovA)⟩
          case round =>
            obtain ⟨m, hm, rfl, ⟨e12, rfl⟩⟩ := hrel
            by_cases hmq : m < q.length
            · obtain ⟨cb, co, hca, hcb, r0, r1⟩ := SlM.at_ T5.out hmq
              obtain ⟨g1, g2⟩ := HMem.out _ (List.getElem_mem hmq)
              obtain ⟨x, hx⟩ : ∃ x, q[m]'hmq = x := ⟨_, rfl⟩
              rw [hx] at r0 g1 g2
              subst hca
              have hd1 : decide (x.t < sf) = false := decide_eq_false (by omega)
              have hd2 : decide (st < x.t) = false := decide_eq_false (by omega)
              have hd3 : decide (m < q.length) = true := decide_eq_true hmq
              clear hx r1 g1 g2
              go_wp2
              refine wp_region_over (by kernel_rfl) (by kernel_rfl) ?_
              repeat (go_big_quiet_step ((fail)))
              refine wpQuiet_nil ?_
              intro _ hw'
              obtain ⟨nq, rfl⟩ := hw'
              go_wp2
              go_roundw
              case rel => exact ⟨m + 1, by omega, by go_num, (by (try unfold Ov); exact ovA)⟩
              case measure => (simp [intOf]; try omega)
            · obtain rfl : m = q.length := by omega
              go_wp2_with (go_at_call 9; (with_reducible refine (HSl.out _ _ _ _ _ (by exact slA T4.out) (by exact slA TR.out)).mono ?_); rintro _ _ ⟨⟨e13, rfl⟩, rfl⟩)
              go_roundw
              case rel => exact ⟨k + 1, by omega, by go_num, (by (try unfold Ov); exact ovB O3.out)⟩
              case measure => (simp [intOf]; try omega)
      · obtain rfl : k = rs.length := by omega
        go_wp2
        go_ret
        exact ⟨(by (try unfold Ov); exact ovB O1.out), rfl⟩
end Go.Proofs.YtneeikjiabpjhaaDoor
