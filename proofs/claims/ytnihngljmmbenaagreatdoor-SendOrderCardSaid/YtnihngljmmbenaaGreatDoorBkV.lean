import Derived.Test.YtnihngljmmbenaaGreatDoorHB
import Derived.Test.YtnihngljmmbenaaGreatDoorGA
namespace Go.Proofs.YtnihngljmmbenaaGreatDoor
set_option linter.unusedVariables false
set_option linter.unusedSimpArgs false
open Go.RowKit
attribute [local go_sem] over_drew chg_drew

def bkD (L : List Se) : List Nat := L.flatMap Se.ds
def BkPut (w : World) (base b n sz mb : Nat) (L : List Se) (S' : List (Nat × Sr)) (en : Ending) (w' : World) : Prop :=
  en = .returned (.int .u16 0) ∧ ∃ L', Chg (bkF mb L) w w' ∧ BkAt base w' b n sz mb L' ∧ bkOf L' = S' ∧ (∀ k ∈ bkF mb L', k ∈ bkF mb L ∨ w.heap.size ≤ k) ∧ ∀ k ∈ bkD L', k ∈ bkD L ∨ w.heap.size ≤ k

theorem BkPut.set_ {w W4 W6 : World} {base b n sz mb : Nat} {L : List Se} {i id : Nat} {x x' : Se} {s' : Sr} (hi : i < L.length) (hx : L[i] = x) (hid : x.id = id) (hov : ∃ e, W4 = over w e) (h4 : BkAt base W4 b n sz mb L) (h1 : x'.id = x.id) (h2 : x'.sp = x.sp) (h3 : x'.s = s') (hse : SeAt base W6 x') (hc : Chg (mb :: x.fs) W4 W6) (hm : MapAt W6 mb (bkMap L))
    (hf : ∀ k ∈ x'.fs, k ∈ x.fs ∨ W4.heap.size ≤ k) (hd : ∀ k ∈ x'.ds, k ∈ x.ds ∨ W4.heap.size ≤ k) (hop : s'.op.length < sz) : BkPut w base b n sz mb L ((bkOf L).set i (id, s')) (.returned (.int .u16 0)) W6 := by
  subst hx h3
  have hsub : ∀ k ∈ mb :: L[i].fs, k ∈ bkF mb L := by
    intro k hk
    rcases List.mem_cons.1 hk with h | h
    · rw [h]; simp [bkF]
    · exact List.mem_cons_of_mem _ (List.mem_flatMap.2 ⟨L[i], List.getElem_mem hi, h⟩)
  have hw : w.heap.size ≤ W4.heap.size := by obtain ⟨e, he⟩ := hov; rw [he]; simp
  refine ⟨rfl, L.set i x', ?_, BkAt.upd h4 hi h1 h2 hse hc hm hf hd hop, ?_, ?_, ?_⟩
  · refine Chg.trans (Chg.of_ov hov _) (Chg.mono hc (fun k hk => .inl (hsub k hk)))
  · show (L.set i x').map _ = _
    rw [List.map_set, h1, hid]
  · intro k hk
    rcases List.mem_cons.1 hk with h | h
    · exact .inl (by rw [h]; simp [bkF])
    · obtain ⟨y, hy, hk2⟩ := List.mem_flatMap.1 h
      rcases List.mem_or_eq_of_mem_set hy with h' | h'
      · exact .inl (List.mem_cons_of_mem _ (List.mem_flatMap.2 ⟨y, h', hk2⟩))
      · rw [h'] at hk2
        rcases hf k hk2 with h5 | h5
        · exact .inl (hsub k (List.mem_cons_of_mem _ h5))
        · exact .inr (by omega)
  · intro k hk
    obtain ⟨y, hy, hk2⟩ := List.mem_flatMap.1 hk
    rcases List.mem_or_eq_of_mem_set hy with h' | h'
    · exact .inl (List.mem_flatMap.2 ⟨y, h', hk2⟩)
    · rw [h'] at hk2
      rcases hd k hk2 with h5 | h5
      · exact .inl (List.mem_flatMap.2 ⟨L[i], List.getElem_mem hi, h5⟩)
      · exact .inr (by omega)
theorem BkPut.push_ {w0 W6 : World} {base b n sz mb : Nat} {L : List Se} {id : Nat} {x' : Se} {s' : Sr} (h : BkAt base w0 b n sz mb L) (hbw : base ≤ w0.heap.size) (hi : ∀ x ∈ L, x.id ≠ id) (h32 : id < 4294967296) (h1 : x'.id = id) (h3 : x'.s = s') (hse : SeAt base W6 x') (hc : Chg [mb] w0 W6) (hm : MapAt W6 mb (bkMap L ++ [(id, .pointer (some ⟨x'.sp, 0, none⟩))]))
    (hf : ∀ k ∈ x'.fs, w0.heap.size ≤ k) (hd : ∀ k ∈ x'.ds, w0.heap.size ≤ k) (hop : s'.op.length < sz) : BkPut w0 base b n sz mb L (bkOf L ++ [(id, s')]) (.returned (.int .u16 0)) W6 := by
  subst h1 h3
  refine ⟨rfl, L ++ [x'], Chg.mono hc (fun k hk => .inl (by simp at hk; simp [bkF, hk])), BkAt.push h hbw hi h32 hse hc hm hf hd hop, by simp, ?_, ?_⟩
  · intro k hk
    rcases List.mem_cons.1 hk with h1 | h1
    · exact .inl (by rw [h1]; simp [bkF])
    · obtain ⟨y, hy, hk2⟩ := List.mem_flatMap.1 h1
      rcases List.mem_append.1 hy with h2 | h2
      · exact .inl (List.mem_cons_of_mem _ (List.mem_flatMap.2 ⟨y, h2, hk2⟩))
      · simp at h2; subst h2; exact .inr (hf k hk2)
  · intro k hk
    obtain ⟨y, hy, hk2⟩ := List.mem_flatMap.1 hk
    rcases List.mem_append.1 hy with h2 | h2
    · exact .inl (List.mem_flatMap.2 ⟨y, h2, hk2⟩)
    · simp at h2; subst h2; exact .inr (hd k hk2)
theorem SeAt.mono {base base' : Nat} {w : World} {x : Se} (h : SeAt base' w x) (hb : base ≤ base') : SeAt base w x :=
  ⟨h.blk, Own.mono h.row hb, Nat.le_trans hb h.lo, h.ne, fun p hp => ⟨(h.pts p hp).b, (h.pts p hp).e, fun k hk => ⟨Nat.le_trans hb ((h.pts p hp).lo k hk).1, ((h.pts p hp).lo k hk).2⟩⟩, h.is_, h.ok, h.apart⟩
theorem blk_own {a : Option Addr} {k n c : Nat} (h : k ∈ blk? a) : (Value.slice a n c).ownBlock = some k := by
  cases a with
  | none => simp [blk?] at h
  | some ad => simp [blk?] at h; simp [Value.ownBlock, h]
theorem put_with {s : Sr} {sz : Nat} {xs : Sm} {n : Nat} {cb : Bool} (hn : n = s.op.length + 1) (hcb : ((n : Int) == (sz : Int)) = cb) : s.with_ (s.op ++ [xs]) cb = s.put sz xs := by
  subst hcb
  unfold Sr.with_ Sr.put
  by_cases h : s.op.length + 1 = sz
  · rw [if_pos h, if_pos (by simp; omega)]
  · rw [if_neg h, if_neg (by simp; omega)]
set_option maxRecDepth 100000 in
set_option maxHeartbeats 8000000 in
theorem put_old {base : Nat} {w : World} {b n sz mb : Nat} {L : List Se} (h : BkAt base w b n sz mb L) (hbw : base ≤ w.heap.size) (hT : TabW w) (hn : L.length ≤ n) (hn2 : n ≤ 64) (hsz : sz ≤ 24) {i : Nat} (hi : i < L.length) {id : Nat} (hid_ : L[i].id = id) (hcl : L[i].s.cl.length ≤ 900) (xs : Sm) (hx : xs.wf) (hm : L[i].s.may xs.t) :
    Calls Tryz.prog 39 #[.pointer (some ⟨b, 0, none⟩), .int .u32 (id : Nat), smV xs.t xs.v] w (BkPut w base b n sz mb L ((bkOf L).set i (id, L[i].s.put sz xs))) := by
  have HMay : Hid (∀ W, (∃ e, W = over w e) → Calls Tryz.prog 77 #[.pointer (some ⟨b, 0, none⟩), .int .u32 (id : Nat), smV xs.t xs.v] W (Ret W (.int .u16 0))) := hid (fun W hW => by
    have k := may_old (w := W) (by obtain ⟨e, rfl⟩ := hW; exact h.on e) hn hn2 hi hid_ (by omega) xs.t xs.v
    rw [if_pos hm] at k; exact k)
  have HAt := hid (fun W (hW : ∃ e, W = over w e) => at_old (w := W) (by obtain ⟨e, rfl⟩ := hW; exact h.on e) hi hid_)
  have hs := h.ser L[i] (List.getElem_mem hi)
  have HBk := hid h
  obtain ⟨x, hxi⟩ : ∃ x, L[i] = x := ⟨_, rfl⟩
  rw [hxi] at hs HAt hm hcl hid_ ⊢
  have HXI := hid hxi
  have hop := h.op _ (List.getElem_mem hi)
  rw [hxi] at hop
  obtain ⟨g, cap, c, ho⟩ := hs.open_
  have HLst := hid (fun W (hW : ∃ e, W = over w e) => last_any (hs.ov hW) (ho.ov hW) (by rw [← ho.hc]; omega))
  have hc := ho.hc
  have hpl : c < x.ps.length := by have := ho.hl; omega
  have his0 := hs.is_.op
  simp only [hc] at his0
  obtain ⟨p, hp⟩ : ∃ p, x.ps[c]'hpl = p := ⟨_, rfl⟩
  have hq : PrtO w g c p := by rw [← hp]; exact ho.part hpl
  have his : PrtIs p x.s.op false := by rw [← hp]; exact his0
  have hpt : PrtOk base w p := by rw [← hp]; exact hs.pts _ (List.getElem_mem hpl)
  clear hp his0
  have hsn := prt_snoc his xs
  have hok := hs.ok.op
  have hkn := knowZ hok.wf (by have := hok.len; omega)
  have hlb := bitsZ_len hok.wf (by have := hok.len; omega)
  have hcm := may_comes hok hm
  have hul : p.us.length = x.s.op.length := by rw [his.us, endsK_len]
  have hlL : p.L.length ≤ 4000 := by rw [his.L]; have := hok.len; omega
  have hcn := hok.snoc hx (by omega) hcm
  rw [← his.e] at hcm hkn
  have HPut := hid (fun (W : World) (h1 : TabW W) (h2 : SlB W p.ba p.bc (pack p.L)) => cput_yes p.L (by omega) p.ba p.bc p.e hkn.2.1 hkn.1 xs.t hx.1 hcm xs.v hx.2 W h1 h2)
  obtain ⟨L', hL'⟩ : ∃ L', p.L ++ (laid p.e xs.t xs.v).1 = L' := ⟨_, rfl⟩
  obtain ⟨e', he'⟩ : ∃ e', (laid p.e xs.t xs.v).2 = e' := ⟨_, rfl⟩
  rw [hL', he'] at HPut
  rw [hL', he'] at hsn
  have HSn := hid hsn
  have HSB := hid (fun W (hW : ∃ e, W = over w e) => Sl.ov hpt.b hW)
  have HSI := hid (fun W (hW : ∃ e, W = over w e) => Sl.ov hpt.e hW)
  have hbl := h.blk.cell 1 rfl
  have hbl2 := h.blk.cell 2 rfl
  have lb := h.blk.lt
  have hg := ho.lt
  have HS := hid hs
  have HO := hid ho
  have HCN := hid hcn
  have HIS := hid his
  have HPT := hid hpt
  have q0 := hq.r0
  have q1 := hq.r1
  have q2 := hq.r2
  have q3 := hq.r3
  have q4 := hq.r4
  have q5 := hq.r5
  have q6 := hq.r6
  have q7 := hq.r7
  have q8 := hq.r8
  have q9 := hq.r9
  have q10 := hq.r10
  rw [his.cl] at q10
  have HM0 := hid hm
  clear hq his hpt hsn hkn hlb hcm hok hcn hL' he' hs ho h hxi hm
  obtain ⟨ba, bc, L0, ea, ec, us, ⟨n0, n1, n2, ⟨n3, n4, n5, n6⟩⟩, cl⟩ := p
  obtain ⟨m0, m1, m2, ⟨m3, m4, m5, m6⟩⟩ := e'
  obtain ⟨sp, hsp⟩ : ∃ sp, x.sp = sp := ⟨_, rfl⟩
  rw [hsp] at HLst
  (try rw [hsp])
  have HSP := hid hsp
  clear hsp
  have HTT := hid hT
  have HUL := hid hul
  have hu24 : us.length ≤ 23 := by have h1 : us.length = x.s.op.length := HUL.out; omega
  clear hul
  rw [HSP.out] at HAt
  go_enter Tryz.func39, Tryz.ntmps39
  go_wp2_with (first
    | (go_at_call 77; (with_reducible refine (HMay.out _ ovA).mono ?_); rintro _ _ ⟨⟨e1, rfl⟩, rfl⟩)
    | (go_at_call 46; (with_reducible refine (HAt.out _ ovA).mono ?_); rintro _ _ ⟨⟨e2, rfl⟩, rfl⟩)
    | (go_at_call 78; (with_reducible refine (HLst.out _ ovA).mono ?_); rintro _ _ ⟨⟨e3, rfl⟩, rfl⟩)
    | (go_at_call 79; (with_reducible refine (HPut.out _ (TabW.ov HTT.out ovA) (HSB.out _ ovA)).mono ?_); rintro _ _ ⟨a4, c4, rfl, ⟨e4, rfl⟩, o4⟩; have HO4 := hid o4; clear o4))
  refine gen_w ?_
  intro W2 hW2
  have O2 : Hid (∃ e, W2 = over w e) := hid (by rw [hW2]; exact ovA)
  have BP : Hid (Blk W2 (w.heap.size + 1 + e1.heap.size + e2.heap.size + e3.heap.size) [.slice a4 (pack L').length c4, .int .i64 (L'.length : Nat), .slice ea us.length ec, .int .i64 m0, .int .i64 m1, .int .i64 m2, .bool m3, .int .u64 (m4 : Nat), .int .u8 (m5 : Nat), .int .u8 (m6 : Nat), .bool false] 123) := hid (by rw [hW2]; exact Blk.on (Blk.new' (by simp)) _)
  have OB : Hid (OwnB (w.heap.size + 1 + e1.heap.size + e2.heap.size + e3.heap.size + 1) W2 (.slice a4 (pack L').length c4) (pack L')) := hid (by rw [hW2]; exact Own.mono (Own.over_swap HO4.out (by exact szA) (by exact szA)) (by exact szA))
  clear hW2 HO4 q0 q1 q2 q3 q4 q5 q6 q7 q8 q9 q10
  obtain ⟨p9, hp9⟩ : ∃ p, p = w.heap.size + 1 + e1.heap.size + e2.heap.size + e3.heap.size := ⟨_, rfl⟩
  rw [← hp9] at BP OB ⊢
  have hp9w : w.heap.size ≤ p9 := by omega
  clear hp9
  have c0 := BP.out.cell 0 rfl
  have c1 := BP.out.cell 1 rfl
  have c2 := BP.out.cell 2 rfl
  have f2 := BP.out.free 2
  have lp := BP.out.lt
  have hfull : us.length < us.length + 1 := by omega
  have SI := hid (HSI.out W2 O2.out)
  have HCl := hid (fun W (hW : ∃ e, W = over W2 e) => clip_any us ea ec W (Sl.ov SI.out hW) (by omega))
  refine M2.wp_region_treeZ (fun w' => ∃ e : World, w' = over _ e) [2, 6, 7, 9] 9 (.q 0 (.q 1 (.q 3 (.q 4 (.q 5 (.e 2 (.e 6 (.e 7 (.q 8 (.l 9)) .no) .no) (.e 6 (.e 2 (.e 7 (.q 8 (.l 9)) .no) .no) .no))))))) (by kernel_rfl) (by kernel_rfl) (ex_drew (over_self _)) ?_
  repeat (refine M2.tree_q rfl rfl ?_; go_big_quiet_step (fail); with_reducible refine wpQuiet_nil ?_)
  refine M2.tree_e (k := 2) rfl ?_ ?_
  · go_wp2_with ((first | (go_at_call 80; (with_reducible refine (HCl.out _ ovA).mono ?_); rintro _ _ ⟨⟨e5, rfl⟩, rfl⟩) | (at_builtin; refine wpList_append_full int_elem ics_len ics_one rfl (.tmp 38) (.tmp 42) rfl (ys := us) (xs := [L'.length]) rfl (SlI.clip (by exact slA SI.out)) (by simp only [List.length_singleton]; omega) rfl (by repeat (first | with_reducible refine Sl.drew ?_ | with_reducible refine Sl.over ?_ _ | exact Sl.one_new (y := L'.length) (by simp; try omega))) (by simp only [List.length_singleton]; unfold maxLen; omega) (by simp only [List.length_singleton]; omega) ?_; intro v6 m6x hown6; obtain ⟨a6, c6, hv6, _⟩ := Own.slice ics_len hown6; subst hv6; obtain ⟨U', hU'⟩ : ∃ U', us ++ [L'.length] = U' := ⟨_, rfl⟩; rw [hU'] at hown6 ⊢; have hul' : U'.length = us.length + 1 := (by rw [← hU']; simp); have HU' := hid hU'; have HUL' := hid hul'; have HO6 := hid hown6; clear hown6 hU' hul')))
    refine M2.TreeQ.mk ovA ?_
    refine M2.tree_e1 (k := 6) rfl ?_
    go_wp2_with (fail)
    refine M2.TreeQ.mk ovA ?_
    refine M2.tree_e1 (k := 7) rfl ?_
    go_wp2_with ((at_builtin; refine wpList_append_full int_elem ics_len ics_one rfl (.tmp 38) (.tmp 42) rfl (ys := us) (xs := [L'.length]) rfl (SlI.clip (by exact slA SI.out)) (by simp only [List.length_singleton]; omega) rfl (by repeat (first | with_reducible refine Sl.drew ?_ | with_reducible refine Sl.over ?_ _ | exact Sl.one_new (y := L'.length) (by simp; try omega))) (by simp only [List.length_singleton]; unfold maxLen; omega) (by simp only [List.length_singleton]; omega) ?_; intro v6 m6x hown6; obtain ⟨a6, c6, hv6, _⟩ := Own.slice ics_len hown6; subst hv6; obtain ⟨U', hU'⟩ : ∃ U', us ++ [L'.length] = U' := ⟨_, rfl⟩; rw [hU'] at hown6 ⊢; have hul' : U'.length = us.length + 1 := (by rw [← hU']; simp); have HU' := hid hU'; have HUL' := hid hul'; have HO6 := hid hown6; clear hown6 hU' hul'))
    refine M2.TreeQ.mk ovA ?_
    repeat (refine M2.tree_q rfl rfl ?_; go_big_quiet_step (fail); with_reducible refine wpQuiet_nil ?_)
    refine M2.tree_l (k := 9) rfl ?_
    go_wp2_with (fail)
    refine M2.LastQ.mk ?_
    refine gen_w ?_
    intro W3 hW3
    have C23 : Hid (Chg [p9] W2 W3) := hid (by rw [hW3]; exact (by exact chA))
    have OI : Hid (OwnI W2.heap.size W3 (.slice a6 U'.length c6) U') := hid (by rw [hW3]; (repeat with_reducible refine Own.drew ?_); exact Own.mono (Own.over_swap HO6.out (by exact szA) (by exact szA)) (by exact szA))
    have BP3 : Hid (Blk W3 p9 [.slice a4 (pack L').length c4, .int .i64 (L'.length : Nat), .slice a6 U'.length c6, .int .i64 m0, .int .i64 m1, .int .i64 m2, .bool m3, .int .u64 (m4 : Nat), .int .u8 (m5 : Nat), .int .u8 (m6 : Nat), .bool false] 123) := hid (by rw [hW3]; (repeat (first | with_reducible refine Blk.on ?_ _ | with_reducible refine Blk.alloc ?_ _ | with_reducible refine Blk.drew ?_)); exact BP.out.set 2 _)
    have O3 : Hid (∃ e, W3 = over w e) := hid (Chg.ov O2.out C23.out (by simp; omega))
    have OB3 : Hid (OwnB (p9 + 1) W3 (.slice a4 (pack L').length c4) (pack L')) := hid (Own.chg OB.out C23.out (fun k hk => by have := (Own.lt OB.out hk).1; simp; omega))
    have BB3 : Hid (Blk W3 b [.int .i64 (n : Nat), .int .i64 (sz : Nat), .map (some mb)] 112) := hid (by obtain ⟨e, he⟩ := O3.out; rw [he]; exact Blk.on HBk.out.blk e)
    have hw3 : W2.heap.size ≤ W3.heap.size := C23.out.size
    clear hW3 c0 c1 c2 f2 lp HO6 hbl hbl2 lb hg
    have c2 := BP3.out.cell 2 rfl
    have c10 := BP3.out.cell 10 rfl
    have f10 := BP3.out.free 10
    have lp := BP3.out.lt
    have hbl := BB3.out.cell 1 rfl
    have lb := BB3.out.lt
    go_wp2_with fail
    refine M2.wp_region_mix [9] 9 (by kernel_rfl) (by kernel_rfl) (by decide) ?_
    simp only [M2.td]
    with_reducible refine M2.mixL_quiet 9 (by kernel_rfl) ?_
    simp only [M2.td]
    repeat (go_big_quiet_step (fail))
    with_reducible refine wpQuiet_nil ?_
    with_reducible refine M2.mixL_nil ?_
    with_reducible refine M2.mixL_eff (by decide) ?_
    go_wp2_with (fail)
    refine M2.MixQ.mk trivial ?_
    with_reducible refine M2.mixL_nil ?_
    obtain ⟨cb, hcb⟩ : ∃ cb, ((U'.length : Int) == (sz : Int)) = cb := ⟨_, rfl⟩
    rw [hcb]
    have HCB := hid hcb
    clear hcb
    refine gen_w ?_
    intro W4 hW4
    have C34 : Hid (Chg [p9] W3 W4) := hid (by rw [hW4]; exact Chg.drew (Chg.setCell (Chg.refl _ _) (.inl (by simp)) _))
    have BP4 : Hid (Blk W4 p9 [.slice a4 (pack L').length c4, .int .i64 (L'.length : Nat), .slice a6 U'.length c6, .int .i64 m0, .int .i64 m1, .int .i64 m2, .bool m3, .int .u64 (m4 : Nat), .int .u8 (m5 : Nat), .int .u8 (m6 : Nat), .bool cb] 123) := hid (by rw [hW4]; exact Blk.drew (BP3.out.set 10 _))
    clear hW4 c2 c10 f10 lp hbl lb
    have O4 : Hid (∃ e, W4 = over w e) := hid (Chg.ov O3.out C34.out (by simp; omega))
    have l2 := BP.out.lt
    have OB4 := hid (Own.chg OB3.out C34.out (fun k hk => by have := (Own.lt OB3.out hk).1; simp; omega))
    have OI4 := hid (Own.chg OI.out C34.out (fun k hk => by have := (Own.lt OI.out hk).1; simp; omega))
    have HW4 : Hid (w.heap.size ≤ W4.heap.size) := hid (by obtain ⟨e, he⟩ := O4.out; rw [he]; simp)
    have hs4 := HS.out.ov O4.out
    have ho4 := HO.out.ov O4.out
    have hb4 : BkAt base W4 b n sz mb L := by obtain ⟨e, he⟩ := O4.out; rw [he]; exact HBk.out.on e
    have hbw4 : base ≤ W4.heap.size := Nat.le_trans hbw HW4.out
    have hGr := grow_any hs4 ho4 (by rw [← hc]; omega) hbw4 ⟨a4, c4, L', a6, c6, U', ⟨m0, m1, m2, ⟨m3, m4, m5, m6⟩⟩, cb⟩
    rw [HSP.out] at hGr
    have HGr := hid hGr
    have HH4 := hid hb4
    have hpt4 : PrtOk base W4 ⟨a4, c4, L', a6, c6, U', ⟨m0, m1, m2, ⟨m3, m4, m5, m6⟩⟩, cb⟩ := by
      refine ⟨(Own.slice' bcs_len OB4.out).2, (Own.slice' ics_len OI4.out).2, fun k hk => ?_⟩
      rcases List.mem_append.1 hk with hk | hk
      · have := Own.lt OB4.out (blk_own hk); omega
      · have := Own.lt OI4.out (blk_own hk); omega
    have hpf : ∀ k ∈ blk? a4 ++ blk? a6, w.heap.size ≤ k := by
      intro k hk
      rcases List.mem_append.1 hk with hk | hk
      · have := Own.lt OB4.out (blk_own hk); omega
      · have := Own.lt OI4.out (blk_own hk); omega
    have his4 : PrtIs ⟨a4, c4, L', a6, c6, U', ⟨m0, m1, m2, ⟨m3, m4, m5, m6⟩⟩, cb⟩ (x.s.op ++ [xs]) cb := by
      obtain ⟨s1, s2, s3⟩ := HSn.out
      exact ⟨s1, by show U' = _; rw [← HU'.out, s1]; exact s3, s2, rfl⟩
    have HPt := hid hpt4
    have HPf := hid hpf
    have HIs := hid his4
    have HS4 := hid hs4
    have HBW := hid hbw4
    have HC := hid hc
    clear hs4 ho4 hb4 hGr hpt4 hpf his4 l2 hbw4
    have d0 := BP4.out.cell 0 rfl
    have d1 := BP4.out.cell 1 rfl
    have d2 := BP4.out.cell 2 rfl
    have d3 := BP4.out.cell 3 rfl
    have d4 := BP4.out.cell 4 rfl
    have d5 := BP4.out.cell 5 rfl
    have d6 := BP4.out.cell 6 rfl
    have d7 := BP4.out.cell 7 rfl
    have d8 := BP4.out.cell 8 rfl
    have d9 := BP4.out.cell 9 rfl
    have d10 := BP4.out.cell 10 rfl
    go_wp2_with (first
      | (go_at_call 81
         (with_reducible refine HGr.out.mono ?_)
         intro en W5 hgr
         obtain ⟨rfl, v', ps', hse, hch, hfs, hds⟩ := SeAt.grow HS4.out HBW.out HC.out hgr HPt.out (fun k hk hm => by have := HPf.out k hk; have := HS.out.flt k hm; omega) HIs.out HCN.out (by simp)
         have HSE := hid hse
         have HCH := hid hch
         have HFS := hid hfs
         have HDS := hid hds
         have hdx := HH4.out.hd L[i] (List.getElem_mem hi)
         rw [HXI.out] at hdx
         have BB5 : Hid (Blk W5 b [.int .i64 (n : Nat), .int .i64 (sz : Nat), .map (some mb)] 112) := hid (Blk.chg HH4.out.blk hch hdx.2.1)
         have M5 : Hid (MapAt W5 mb (bkMap L)) := hid (MapAt.chg HH4.out.map hch hdx.1)
         have hget := HH4.out.get hi
         rw [HXI.out, hid_, HSP.out] at hget
         have HGet := hid hget
         clear hdx hget
         clear hgr hse hch hfs hds d0 d1 d2 d3 d4 d5 d6 d7 d8 d9 d10
         have b2 := BB5.out.cell 2 rfl
         have lb := BB5.out.lt)
      | (at_mapUpdate; refine wpList_update_at rfl (.tmp 60) (.tmp 61) (.tmp 62) 109 rfl mb id (.pointer (some ⟨sp, 0, none⟩)) (bkMap L) rfl rfl rfl (map_same (k := 24) (e := 110) (by kernel_rfl) (by kernel_rfl) M5.out id _ HGet.out) ?_; intro mt hm6; have HM6 := hid hm6; clear hm6))
    go_ret
    have hs7 : SeAt base (chg [mb] W5 mt) ⟨x.id, x.sp, v', ps', x.s.with_ (x.s.op ++ [xs]) cb⟩ := by
      have hdx := HH4.out.hd L[i] (List.getElem_mem hi)
      rw [HXI.out] at hdx
      have hm4 := HH4.out.map.lt
      refine SeAt.chg HSE.out (chg_chg _ _ _) (fun k hk hm => ?_) (fun k hk hm => ?_)
      · simp at hm; subst hm
        rcases HFS.out _ hk with h | h
        · exact hdx.1 h
        · omega
      · simp at hm; subst hm
        rcases HDS.out _ hk with h | h
        · exact hdx.2.2.1 h
        · have h1 := HPf.out _ h
          have h2 := HBk.out.map.lt
          omega
    refine BkPut.set_ hi HXI.out hid_ (over_self w) HBk.out (x' := ⟨x.id, x.sp, v', ps', x.s.with_ (x.s.op ++ [xs]) cb⟩) rfl rfl (put_with (by rw [HUL'.out, HUL.out]) HCB.out) hs7 (Chg.then (Chg.trans (Chg.of_ov O4.out _) (Chg.mono HCH.out (fun k hk => .inl (List.mem_cons_of_mem _ hk)))) (chg_chg _ _ _) (fun k hk => .inl (by simp at hk; simp [hk]))) HM6.out (fun k hk => (HFS.out k hk).imp (fun h => h) (fun h => Nat.le_trans HW4.out h)) ?_ ?_
    · intro k hk
      rcases HDS.out k hk with h | h
      · exact .inl h
      · exact .inr (HPf.out k h)
    · exact (put_ok hsz HS.out.ok hop hx HM0.out).2
  refine M2.tree_e (k := 6) rfl ?_ ?_
  · go_wp2_with (fail)
    refine M2.TreeQ.mk ovA ?_
    refine M2.tree_e1 (k := 2) rfl ?_
    go_wp2_with ((first | (go_at_call 80; (with_reducible refine (HCl.out _ ovA).mono ?_); rintro _ _ ⟨⟨e5, rfl⟩, rfl⟩) | (at_builtin; refine wpList_append_full int_elem ics_len ics_one rfl (.tmp 38) (.tmp 42) rfl (ys := us) (xs := [L'.length]) rfl (SlI.clip (by exact slA SI.out)) (by simp only [List.length_singleton]; omega) rfl (by repeat (first | with_reducible refine Sl.drew ?_ | with_reducible refine Sl.over ?_ _ | exact Sl.one_new (y := L'.length) (by simp; try omega))) (by simp only [List.length_singleton]; unfold maxLen; omega) (by simp only [List.length_singleton]; omega) ?_; intro v6 m6x hown6; obtain ⟨a6, c6, hv6, _⟩ := Own.slice ics_len hown6; subst hv6; obtain ⟨U', hU'⟩ : ∃ U', us ++ [L'.length] = U' := ⟨_, rfl⟩; rw [hU'] at hown6 ⊢; have hul' : U'.length = us.length + 1 := (by rw [← hU']; simp); have HU' := hid hU'; have HUL' := hid hul'; have HO6 := hid hown6; clear hown6 hU' hul')))
    refine M2.TreeQ.mk ovA ?_
    refine M2.tree_e1 (k := 7) rfl ?_
    go_wp2_with ((at_builtin; refine wpList_append_full int_elem ics_len ics_one rfl (.tmp 38) (.tmp 42) rfl (ys := us) (xs := [L'.length]) rfl (SlI.clip (by exact slA SI.out)) (by simp only [List.length_singleton]; omega) rfl (by repeat (first | with_reducible refine Sl.drew ?_ | with_reducible refine Sl.over ?_ _ | exact Sl.one_new (y := L'.length) (by simp; try omega))) (by simp only [List.length_singleton]; unfold maxLen; omega) (by simp only [List.length_singleton]; omega) ?_; intro v6 m6x hown6; obtain ⟨a6, c6, hv6, _⟩ := Own.slice ics_len hown6; subst hv6; obtain ⟨U', hU'⟩ : ∃ U', us ++ [L'.length] = U' := ⟨_, rfl⟩; rw [hU'] at hown6 ⊢; have hul' : U'.length = us.length + 1 := (by rw [← hU']; simp); have HU' := hid hU'; have HUL' := hid hul'; have HO6 := hid hown6; clear hown6 hU' hul'))
    refine M2.TreeQ.mk ovA ?_
    repeat (refine M2.tree_q rfl rfl ?_; go_big_quiet_step (fail); with_reducible refine wpQuiet_nil ?_)
    refine M2.tree_l (k := 9) rfl ?_
    go_wp2_with (fail)
    refine M2.LastQ.mk ?_
    refine gen_w ?_
    intro W3 hW3
    have C23 : Hid (Chg [p9] W2 W3) := hid (by rw [hW3]; exact (by exact chA))
    have OI : Hid (OwnI W2.heap.size W3 (.slice a6 U'.length c6) U') := hid (by rw [hW3]; (repeat with_reducible refine Own.drew ?_); exact Own.mono (Own.over_swap HO6.out (by exact szA) (by exact szA)) (by exact szA))
    have BP3 : Hid (Blk W3 p9 [.slice a4 (pack L').length c4, .int .i64 (L'.length : Nat), .slice a6 U'.length c6, .int .i64 m0, .int .i64 m1, .int .i64 m2, .bool m3, .int .u64 (m4 : Nat), .int .u8 (m5 : Nat), .int .u8 (m6 : Nat), .bool false] 123) := hid (by rw [hW3]; (repeat (first | with_reducible refine Blk.on ?_ _ | with_reducible refine Blk.alloc ?_ _ | with_reducible refine Blk.drew ?_)); exact BP.out.set 2 _)
    have O3 : Hid (∃ e, W3 = over w e) := hid (Chg.ov O2.out C23.out (by simp; omega))
    have OB3 : Hid (OwnB (p9 + 1) W3 (.slice a4 (pack L').length c4) (pack L')) := hid (Own.chg OB.out C23.out (fun k hk => by have := (Own.lt OB.out hk).1; simp; omega))
    have BB3 : Hid (Blk W3 b [.int .i64 (n : Nat), .int .i64 (sz : Nat), .map (some mb)] 112) := hid (by obtain ⟨e, he⟩ := O3.out; rw [he]; exact Blk.on HBk.out.blk e)
    have hw3 : W2.heap.size ≤ W3.heap.size := C23.out.size
    clear hW3 c0 c1 c2 f2 lp HO6 hbl hbl2 lb hg
    have c2 := BP3.out.cell 2 rfl
    have c10 := BP3.out.cell 10 rfl
    have f10 := BP3.out.free 10
    have lp := BP3.out.lt
    have hbl := BB3.out.cell 1 rfl
    have lb := BB3.out.lt
    go_wp2_with fail
    refine M2.wp_region_mix [9] 9 (by kernel_rfl) (by kernel_rfl) (by decide) ?_
    simp only [M2.td]
    with_reducible refine M2.mixL_quiet 9 (by kernel_rfl) ?_
    simp only [M2.td]
    repeat (go_big_quiet_step (fail))
    with_reducible refine wpQuiet_nil ?_
    with_reducible refine M2.mixL_nil ?_
    with_reducible refine M2.mixL_eff (by decide) ?_
    go_wp2_with (fail)
    refine M2.MixQ.mk trivial ?_
    with_reducible refine M2.mixL_nil ?_
    obtain ⟨cb, hcb⟩ : ∃ cb, ((U'.length : Int) == (sz : Int)) = cb := ⟨_, rfl⟩
    rw [hcb]
    have HCB := hid hcb
    clear hcb
    refine gen_w ?_
    intro W4 hW4
    have C34 : Hid (Chg [p9] W3 W4) := hid (by rw [hW4]; exact Chg.drew (Chg.setCell (Chg.refl _ _) (.inl (by simp)) _))
    have BP4 : Hid (Blk W4 p9 [.slice a4 (pack L').length c4, .int .i64 (L'.length : Nat), .slice a6 U'.length c6, .int .i64 m0, .int .i64 m1, .int .i64 m2, .bool m3, .int .u64 (m4 : Nat), .int .u8 (m5 : Nat), .int .u8 (m6 : Nat), .bool cb] 123) := hid (by rw [hW4]; exact Blk.drew (BP3.out.set 10 _))
    clear hW4 c2 c10 f10 lp hbl lb
    have O4 : Hid (∃ e, W4 = over w e) := hid (Chg.ov O3.out C34.out (by simp; omega))
    have l2 := BP.out.lt
    have OB4 := hid (Own.chg OB3.out C34.out (fun k hk => by have := (Own.lt OB3.out hk).1; simp; omega))
    have OI4 := hid (Own.chg OI.out C34.out (fun k hk => by have := (Own.lt OI.out hk).1; simp; omega))
    have HW4 : Hid (w.heap.size ≤ W4.heap.size) := hid (by obtain ⟨e, he⟩ := O4.out; rw [he]; simp)
    have hs4 := HS.out.ov O4.out
    have ho4 := HO.out.ov O4.out
    have hb4 : BkAt base W4 b n sz mb L := by obtain ⟨e, he⟩ := O4.out; rw [he]; exact HBk.out.on e
    have hbw4 : base ≤ W4.heap.size := Nat.le_trans hbw HW4.out
    have hGr := grow_any hs4 ho4 (by rw [← hc]; omega) hbw4 ⟨a4, c4, L', a6, c6, U', ⟨m0, m1, m2, ⟨m3, m4, m5, m6⟩⟩, cb⟩
    rw [HSP.out] at hGr
    have HGr := hid hGr
    have HH4 := hid hb4
    have hpt4 : PrtOk base W4 ⟨a4, c4, L', a6, c6, U', ⟨m0, m1, m2, ⟨m3, m4, m5, m6⟩⟩, cb⟩ := by
      refine ⟨(Own.slice' bcs_len OB4.out).2, (Own.slice' ics_len OI4.out).2, fun k hk => ?_⟩
      rcases List.mem_append.1 hk with hk | hk
      · have := Own.lt OB4.out (blk_own hk); omega
      · have := Own.lt OI4.out (blk_own hk); omega
    have hpf : ∀ k ∈ blk? a4 ++ blk? a6, w.heap.size ≤ k := by
      intro k hk
      rcases List.mem_append.1 hk with hk | hk
      · have := Own.lt OB4.out (blk_own hk); omega
      · have := Own.lt OI4.out (blk_own hk); omega
    have his4 : PrtIs ⟨a4, c4, L', a6, c6, U', ⟨m0, m1, m2, ⟨m3, m4, m5, m6⟩⟩, cb⟩ (x.s.op ++ [xs]) cb := by
      obtain ⟨s1, s2, s3⟩ := HSn.out
      exact ⟨s1, by show U' = _; rw [← HU'.out, s1]; exact s3, s2, rfl⟩
    have HPt := hid hpt4
    have HPf := hid hpf
    have HIs := hid his4
    have HS4 := hid hs4
    have HBW := hid hbw4
    have HC := hid hc
    clear hs4 ho4 hb4 hGr hpt4 hpf his4 l2 hbw4
    have d0 := BP4.out.cell 0 rfl
    have d1 := BP4.out.cell 1 rfl
    have d2 := BP4.out.cell 2 rfl
    have d3 := BP4.out.cell 3 rfl
    have d4 := BP4.out.cell 4 rfl
    have d5 := BP4.out.cell 5 rfl
    have d6 := BP4.out.cell 6 rfl
    have d7 := BP4.out.cell 7 rfl
    have d8 := BP4.out.cell 8 rfl
    have d9 := BP4.out.cell 9 rfl
    have d10 := BP4.out.cell 10 rfl
    go_wp2_with (first
      | (go_at_call 81
         (with_reducible refine HGr.out.mono ?_)
         intro en W5 hgr
         obtain ⟨rfl, v', ps', hse, hch, hfs, hds⟩ := SeAt.grow HS4.out HBW.out HC.out hgr HPt.out (fun k hk hm => by have := HPf.out k hk; have := HS.out.flt k hm; omega) HIs.out HCN.out (by simp)
         have HSE := hid hse
         have HCH := hid hch
         have HFS := hid hfs
         have HDS := hid hds
         have hdx := HH4.out.hd L[i] (List.getElem_mem hi)
         rw [HXI.out] at hdx
         have BB5 : Hid (Blk W5 b [.int .i64 (n : Nat), .int .i64 (sz : Nat), .map (some mb)] 112) := hid (Blk.chg HH4.out.blk hch hdx.2.1)
         have M5 : Hid (MapAt W5 mb (bkMap L)) := hid (MapAt.chg HH4.out.map hch hdx.1)
         have hget := HH4.out.get hi
         rw [HXI.out, hid_, HSP.out] at hget
         have HGet := hid hget
         clear hdx hget
         clear hgr hse hch hfs hds d0 d1 d2 d3 d4 d5 d6 d7 d8 d9 d10
         have b2 := BB5.out.cell 2 rfl
         have lb := BB5.out.lt)
      | (at_mapUpdate; refine wpList_update_at rfl (.tmp 60) (.tmp 61) (.tmp 62) 109 rfl mb id (.pointer (some ⟨sp, 0, none⟩)) (bkMap L) rfl rfl rfl (map_same (k := 24) (e := 110) (by kernel_rfl) (by kernel_rfl) M5.out id _ HGet.out) ?_; intro mt hm6; have HM6 := hid hm6; clear hm6))
    go_ret
    have hs7 : SeAt base (chg [mb] W5 mt) ⟨x.id, x.sp, v', ps', x.s.with_ (x.s.op ++ [xs]) cb⟩ := by
      have hdx := HH4.out.hd L[i] (List.getElem_mem hi)
      rw [HXI.out] at hdx
      have hm4 := HH4.out.map.lt
      refine SeAt.chg HSE.out (chg_chg _ _ _) (fun k hk hm => ?_) (fun k hk hm => ?_)
      · simp at hm; subst hm
        rcases HFS.out _ hk with h | h
        · exact hdx.1 h
        · omega
      · simp at hm; subst hm
        rcases HDS.out _ hk with h | h
        · exact hdx.2.2.1 h
        · have h1 := HPf.out _ h
          have h2 := HBk.out.map.lt
          omega
    refine BkPut.set_ hi HXI.out hid_ (over_self w) HBk.out (x' := ⟨x.id, x.sp, v', ps', x.s.with_ (x.s.op ++ [xs]) cb⟩) rfl rfl (put_with (by rw [HUL'.out, HUL.out]) HCB.out) hs7 (Chg.then (Chg.trans (Chg.of_ov O4.out _) (Chg.mono HCH.out (fun k hk => .inl (List.mem_cons_of_mem _ hk)))) (chg_chg _ _ _) (fun k hk => .inl (by simp at hk; simp [hk]))) HM6.out (fun k hk => (HFS.out k hk).imp (fun h => h) (fun h => Nat.le_trans HW4.out h)) ?_ ?_
    · intro k hk
      rcases HDS.out k hk with h | h
      · exact .inl h
      · exact .inr (HPf.out k h)
    · exact (put_ok hsz HS.out.ok hop hx HM0.out).2
  exact M2.tree_no
set_option maxRecDepth 100000 in
set_option maxHeartbeats 8000000 in
theorem put_new {base : Nat} {w0 : World} {b n sz mb : Nat} {L : List Se} (h0 : BkAt base w0 b n sz mb L) (hbw0 : base ≤ w0.heap.size) (hT0 : TabW w0) (hn : L.length < n) (hn2 : n ≤ 64) (hsz : sz ≤ 24) (hsz1 : 1 ≤ sz) {id : Nat} (hi : ∀ x ∈ L, x.id ≠ id) (h32 : id < 4294967296) (xs : Sm) (hx : xs.wf) :
    Calls Tryz.prog 39 #[.pointer (some ⟨b, 0, none⟩), .int .u32 (id : Nat), smV xs.t xs.v] w0 (BkPut w0 base b n sz mb L (bkOf L ++ [(id, Sr.zero.put sz xs)])) := by
  have HMay := hid (fun W (hW : ∃ e, W = over w0 e) => may_new (w := W) (by obtain ⟨e, rfl⟩ := hW; exact h0.on e) hn hn2 hi xs.t xs.v)
  have HAt := hid (fun W (hW : ∃ e, W = over w0 e) => at_new (w := W) (by obtain ⟨e, rfl⟩ := hW; exact h0.on e) hi)
  have HBk0 := hid h0
  have HT0 := hid hT0
  clear h0 hT0
  go_enter Tryz.func39, Tryz.ntmps39
  go_wp2_with (first
    | (go_at_call 77; (with_reducible refine (HMay.out _ ovA).mono ?_); rintro _ _ ⟨⟨e1, rfl⟩, rfl⟩)
    | (go_at_call 46
       (with_reducible refine (HAt.out _ ovA).mono ?_)
       rintro _ w ⟨x, rfl, ⟨e2, hw⟩, hs0, hxs, hxid⟩
       have O0 : Hid (∃ e, w = over w0 e) := hid (by rw [hw]; exact ovA)
       have B5 : Hid (Blk w w0.heap.size [.int .i64 xs.t, .int .u64 (xs.v : Nat)] 70) := hid (by rw [hw]; exact Blk.on (Blk.on (Blk.new' (by simp)) _) _)
       have hge : w0.heap.size ≤ (over (w0.alloc (.cells #[.int .i64 xs.t, .int .u64 (xs.v : Nat)] 70)) e1).heap.size := by simp; omega
       have HXF : Hid (∀ k ∈ x.fs, w0.heap.size ≤ k) := hid (fun k hk => Nat.le_trans hge (hs0.flt k hk).1)
       have HXD : Hid (∀ k ∈ x.ds, w0.heap.size ≤ k) := hid (fun k hk => Nat.le_trans hge (hs0.dlt k hk).1)
       have hs : SeAt base w x := hs0.mono (Nat.le_trans hbw0 hge)
       have HW0 : Hid (w0.heap.size ≤ w.heap.size) := hid (by rw [hw]; simp; omega)
       have hbw : base ≤ w.heap.size := Nat.le_trans hbw0 HW0.out
       have h : BkAt base w b n sz mb L := by obtain ⟨e, he⟩ := O0.out; rw [he]; exact HBk0.out.on e
       have hT : TabW w := TabW.ov HT0.out O0.out
       have HBk := hid h
       have hm : x.s.may xs.t := by rw [hxs]; simp [Sr.may, Sr.zero]
       have hcl : x.s.cl.length ≤ 900 := by rw [hxs]; simp [Sr.zero]
       have hop : x.s.op.length < sz := by rw [hxs]; simp [Sr.zero]; omega
       have hxi : True := trivial
       have HXS := hid hxs
       have HXID := hid hxid
       clear hw hs0 hxs hxid hge HAt HMay
       have s50 := B5.out.cell 0 rfl
       have s51 := B5.out.cell 1 rfl
       have ls5 := B5.out.lt
       obtain ⟨g, cap, c, ho⟩ := hs.open_
       have HLst := hid (fun W (hW : ∃ e, W = over w e) => last_any (hs.ov hW) (ho.ov hW) (by rw [← ho.hc]; omega))
       have hc := ho.hc
       have hpl : c < x.ps.length := by have := ho.hl; omega
       have his0 := hs.is_.op
       simp only [hc] at his0
       obtain ⟨p, hp⟩ : ∃ p, x.ps[c]'hpl = p := ⟨_, rfl⟩
       have hq : PrtO w g c p := by rw [← hp]; exact ho.part hpl
       have his : PrtIs p x.s.op false := by rw [← hp]; exact his0
       have hpt : PrtOk base w p := by rw [← hp]; exact hs.pts _ (List.getElem_mem hpl)
       clear hp his0
       have hsn := prt_snoc his xs
       have hok := hs.ok.op
       have hkn := knowZ hok.wf (by have := hok.len; omega)
       have hlb := bitsZ_len hok.wf (by have := hok.len; omega)
       have hcm := may_comes hok hm
       have hul : p.us.length = x.s.op.length := by rw [his.us, endsK_len]
       have hlL : p.L.length ≤ 4000 := by rw [his.L]; have := hok.len; omega
       have hcn := hok.snoc hx (by omega) hcm
       rw [← his.e] at hcm hkn
       have HPut := hid (fun (W : World) (h1 : TabW W) (h2 : SlB W p.ba p.bc (pack p.L)) => cput_yes p.L (by omega) p.ba p.bc p.e hkn.2.1 hkn.1 xs.t hx.1 hcm xs.v hx.2 W h1 h2)
       obtain ⟨L', hL'⟩ : ∃ L', p.L ++ (laid p.e xs.t xs.v).1 = L' := ⟨_, rfl⟩
       obtain ⟨e', he'⟩ : ∃ e', (laid p.e xs.t xs.v).2 = e' := ⟨_, rfl⟩
       rw [hL', he'] at HPut
       rw [hL', he'] at hsn
       have HSn := hid hsn
       have HSB := hid (fun W (hW : ∃ e, W = over w e) => Sl.ov hpt.b hW)
       have HSI := hid (fun W (hW : ∃ e, W = over w e) => Sl.ov hpt.e hW)
       have hbl := h.blk.cell 1 rfl
       have hbl2 := h.blk.cell 2 rfl
       have lb := h.blk.lt
       have hg := ho.lt
       have HS := hid hs
       have HO := hid ho
       have HCN := hid hcn
       have HIS := hid his
       have HPT := hid hpt
       have q0 := hq.r0
       have q1 := hq.r1
       have q2 := hq.r2
       have q3 := hq.r3
       have q4 := hq.r4
       have q5 := hq.r5
       have q6 := hq.r6
       have q7 := hq.r7
       have q8 := hq.r8
       have q9 := hq.r9
       have q10 := hq.r10
       rw [his.cl] at q10
       have HM0 := hid hm
       clear hq his hpt hsn hkn hlb hcm hok hcn hL' he' hs ho h hxi hm
       obtain ⟨ba, bc, L0, ea, ec, us, ⟨n0, n1, n2, ⟨n3, n4, n5, n6⟩⟩, cl⟩ := p
       obtain ⟨m0, m1, m2, ⟨m3, m4, m5, m6⟩⟩ := e'
       obtain ⟨sp, hsp⟩ : ∃ sp, x.sp = sp := ⟨_, rfl⟩
       rw [hsp] at HLst
       (try rw [hsp])
       have HSP := hid hsp
       clear hsp
       have HTT := hid hT
       have HUL := hid hul
       have hu24 : us.length ≤ 23 := by have h1 : us.length = x.s.op.length := HUL.out; omega
       clear hul
       skip)
    | (go_at_call 78; (with_reducible refine (HLst.out _ ovA).mono ?_); rintro _ _ ⟨⟨e3, rfl⟩, rfl⟩)
    | (go_at_call 79; (with_reducible refine (HPut.out _ (TabW.ov HTT.out ovA) (HSB.out _ ovA)).mono ?_); rintro _ _ ⟨a4, c4, rfl, ⟨e4, rfl⟩, o4⟩; have HO4 := hid o4; clear o4))
  refine gen_w ?_
  intro W2 hW2
  have O2 : Hid (∃ e, W2 = over w e) := hid (by rw [hW2]; exact ovA)
  have BP : Hid (Blk W2 (w.heap.size + e3.heap.size) [.slice a4 (pack L').length c4, .int .i64 (L'.length : Nat), .slice ea us.length ec, .int .i64 m0, .int .i64 m1, .int .i64 m2, .bool m3, .int .u64 (m4 : Nat), .int .u8 (m5 : Nat), .int .u8 (m6 : Nat), .bool false] 123) := hid (by rw [hW2]; exact Blk.on (Blk.new' (by simp)) _)
  have OB : Hid (OwnB (w.heap.size + e3.heap.size + 1) W2 (.slice a4 (pack L').length c4) (pack L')) := hid (by rw [hW2]; exact Own.mono (Own.over_swap HO4.out (by exact szA) (by exact szA)) (by exact szA))
  clear hW2 HO4 q0 q1 q2 q3 q4 q5 q6 q7 q8 q9 q10
  obtain ⟨p9, hp9⟩ : ∃ p, p = w.heap.size + e3.heap.size := ⟨_, rfl⟩
  rw [← hp9] at BP OB ⊢
  have hp9w : w.heap.size ≤ p9 := by omega
  clear hp9
  have c0 := BP.out.cell 0 rfl
  have c1 := BP.out.cell 1 rfl
  have c2 := BP.out.cell 2 rfl
  have f2 := BP.out.free 2
  have lp := BP.out.lt
  have hfull : us.length < us.length + 1 := by omega
  have SI := hid (HSI.out W2 O2.out)
  have HCl := hid (fun W (hW : ∃ e, W = over W2 e) => clip_any us ea ec W (Sl.ov SI.out hW) (by omega))
  refine M2.wp_region_treeZ (fun w' => ∃ e : World, w' = over _ e) [2, 6, 7, 9] 9 (.q 0 (.q 1 (.q 3 (.q 4 (.q 5 (.e 2 (.e 6 (.e 7 (.q 8 (.l 9)) .no) .no) (.e 6 (.e 2 (.e 7 (.q 8 (.l 9)) .no) .no) .no))))))) (by kernel_rfl) (by kernel_rfl) (ex_drew (over_self _)) ?_
  repeat (refine M2.tree_q rfl rfl ?_; go_big_quiet_step (fail); with_reducible refine wpQuiet_nil ?_)
  refine M2.tree_e (k := 2) rfl ?_ ?_
  · go_wp2_with ((first | (go_at_call 80; (with_reducible refine (HCl.out _ ovA).mono ?_); rintro _ _ ⟨⟨e5, rfl⟩, rfl⟩) | (at_builtin; refine wpList_append_full int_elem ics_len ics_one rfl (.tmp 38) (.tmp 42) rfl (ys := us) (xs := [L'.length]) rfl (SlI.clip (by exact slA SI.out)) (by simp only [List.length_singleton]; omega) rfl (by repeat (first | with_reducible refine Sl.drew ?_ | with_reducible refine Sl.over ?_ _ | exact Sl.one_new (y := L'.length) (by simp; try omega))) (by simp only [List.length_singleton]; unfold maxLen; omega) (by simp only [List.length_singleton]; omega) ?_; intro v6 m6x hown6; obtain ⟨a6, c6, hv6, _⟩ := Own.slice ics_len hown6; subst hv6; obtain ⟨U', hU'⟩ : ∃ U', us ++ [L'.length] = U' := ⟨_, rfl⟩; rw [hU'] at hown6 ⊢; have hul' : U'.length = us.length + 1 := (by rw [← hU']; simp); have HU' := hid hU'; have HUL' := hid hul'; have HO6 := hid hown6; clear hown6 hU' hul')))
    refine M2.TreeQ.mk ovA ?_
    refine M2.tree_e1 (k := 6) rfl ?_
    go_wp2_with (fail)
    refine M2.TreeQ.mk ovA ?_
    refine M2.tree_e1 (k := 7) rfl ?_
    go_wp2_with ((at_builtin; refine wpList_append_full int_elem ics_len ics_one rfl (.tmp 38) (.tmp 42) rfl (ys := us) (xs := [L'.length]) rfl (SlI.clip (by exact slA SI.out)) (by simp only [List.length_singleton]; omega) rfl (by repeat (first | with_reducible refine Sl.drew ?_ | with_reducible refine Sl.over ?_ _ | exact Sl.one_new (y := L'.length) (by simp; try omega))) (by simp only [List.length_singleton]; unfold maxLen; omega) (by simp only [List.length_singleton]; omega) ?_; intro v6 m6x hown6; obtain ⟨a6, c6, hv6, _⟩ := Own.slice ics_len hown6; subst hv6; obtain ⟨U', hU'⟩ : ∃ U', us ++ [L'.length] = U' := ⟨_, rfl⟩; rw [hU'] at hown6 ⊢; have hul' : U'.length = us.length + 1 := (by rw [← hU']; simp); have HU' := hid hU'; have HUL' := hid hul'; have HO6 := hid hown6; clear hown6 hU' hul'))
    refine M2.TreeQ.mk ovA ?_
    repeat (refine M2.tree_q rfl rfl ?_; go_big_quiet_step (fail); with_reducible refine wpQuiet_nil ?_)
    refine M2.tree_l (k := 9) rfl ?_
    go_wp2_with (fail)
    refine M2.LastQ.mk ?_
    refine gen_w ?_
    intro W3 hW3
    have C23 : Hid (Chg [p9] W2 W3) := hid (by rw [hW3]; exact (by exact chA))
    have OI : Hid (OwnI W2.heap.size W3 (.slice a6 U'.length c6) U') := hid (by rw [hW3]; (repeat with_reducible refine Own.drew ?_); exact Own.mono (Own.over_swap HO6.out (by exact szA) (by exact szA)) (by exact szA))
    have BP3 : Hid (Blk W3 p9 [.slice a4 (pack L').length c4, .int .i64 (L'.length : Nat), .slice a6 U'.length c6, .int .i64 m0, .int .i64 m1, .int .i64 m2, .bool m3, .int .u64 (m4 : Nat), .int .u8 (m5 : Nat), .int .u8 (m6 : Nat), .bool false] 123) := hid (by rw [hW3]; (repeat (first | with_reducible refine Blk.on ?_ _ | with_reducible refine Blk.alloc ?_ _ | with_reducible refine Blk.drew ?_)); exact BP.out.set 2 _)
    have O3 : Hid (∃ e, W3 = over w e) := hid (Chg.ov O2.out C23.out (by simp; omega))
    have OB3 : Hid (OwnB (p9 + 1) W3 (.slice a4 (pack L').length c4) (pack L')) := hid (Own.chg OB.out C23.out (fun k hk => by have := (Own.lt OB.out hk).1; simp; omega))
    have BB3 : Hid (Blk W3 b [.int .i64 (n : Nat), .int .i64 (sz : Nat), .map (some mb)] 112) := hid (by obtain ⟨e, he⟩ := O3.out; rw [he]; exact Blk.on HBk.out.blk e)
    have hw3 : W2.heap.size ≤ W3.heap.size := C23.out.size
    clear hW3 c0 c1 c2 f2 lp HO6 hbl hbl2 lb hg
    have c2 := BP3.out.cell 2 rfl
    have c10 := BP3.out.cell 10 rfl
    have f10 := BP3.out.free 10
    have lp := BP3.out.lt
    have hbl := BB3.out.cell 1 rfl
    have lb := BB3.out.lt
    go_wp2_with fail
    refine M2.wp_region_mix [9] 9 (by kernel_rfl) (by kernel_rfl) (by decide) ?_
    simp only [M2.td]
    with_reducible refine M2.mixL_quiet 9 (by kernel_rfl) ?_
    simp only [M2.td]
    repeat (go_big_quiet_step (fail))
    with_reducible refine wpQuiet_nil ?_
    with_reducible refine M2.mixL_nil ?_
    with_reducible refine M2.mixL_eff (by decide) ?_
    go_wp2_with (fail)
    refine M2.MixQ.mk trivial ?_
    with_reducible refine M2.mixL_nil ?_
    obtain ⟨cb, hcb⟩ : ∃ cb, ((U'.length : Int) == (sz : Int)) = cb := ⟨_, rfl⟩
    rw [hcb]
    have HCB := hid hcb
    clear hcb
    refine gen_w ?_
    intro W4 hW4
    have C34 : Hid (Chg [p9] W3 W4) := hid (by rw [hW4]; exact Chg.drew (Chg.setCell (Chg.refl _ _) (.inl (by simp)) _))
    have BP4 : Hid (Blk W4 p9 [.slice a4 (pack L').length c4, .int .i64 (L'.length : Nat), .slice a6 U'.length c6, .int .i64 m0, .int .i64 m1, .int .i64 m2, .bool m3, .int .u64 (m4 : Nat), .int .u8 (m5 : Nat), .int .u8 (m6 : Nat), .bool cb] 123) := hid (by rw [hW4]; exact Blk.drew (BP3.out.set 10 _))
    clear hW4 c2 c10 f10 lp hbl lb
    have O4 : Hid (∃ e, W4 = over w e) := hid (Chg.ov O3.out C34.out (by simp; omega))
    have l2 := BP.out.lt
    have OB4 := hid (Own.chg OB3.out C34.out (fun k hk => by have := (Own.lt OB3.out hk).1; simp; omega))
    have OI4 := hid (Own.chg OI.out C34.out (fun k hk => by have := (Own.lt OI.out hk).1; simp; omega))
    have HW4 : Hid (w.heap.size ≤ W4.heap.size) := hid (by obtain ⟨e, he⟩ := O4.out; rw [he]; simp)
    have hs4 := HS.out.ov O4.out
    have ho4 := HO.out.ov O4.out
    have hb4 : BkAt base W4 b n sz mb L := by obtain ⟨e, he⟩ := O4.out; rw [he]; exact HBk.out.on e
    have hbw4 : base ≤ W4.heap.size := Nat.le_trans hbw HW4.out
    have hGr := grow_any hs4 ho4 (by rw [← hc]; omega) hbw4 ⟨a4, c4, L', a6, c6, U', ⟨m0, m1, m2, ⟨m3, m4, m5, m6⟩⟩, cb⟩
    rw [HSP.out] at hGr
    have HGr := hid hGr
    have HH4 := hid hb4
    have hpt4 : PrtOk base W4 ⟨a4, c4, L', a6, c6, U', ⟨m0, m1, m2, ⟨m3, m4, m5, m6⟩⟩, cb⟩ := by
      refine ⟨(Own.slice' bcs_len OB4.out).2, (Own.slice' ics_len OI4.out).2, fun k hk => ?_⟩
      rcases List.mem_append.1 hk with hk | hk
      · have := Own.lt OB4.out (blk_own hk); omega
      · have := Own.lt OI4.out (blk_own hk); omega
    have hpf : ∀ k ∈ blk? a4 ++ blk? a6, w.heap.size ≤ k := by
      intro k hk
      rcases List.mem_append.1 hk with hk | hk
      · have := Own.lt OB4.out (blk_own hk); omega
      · have := Own.lt OI4.out (blk_own hk); omega
    have his4 : PrtIs ⟨a4, c4, L', a6, c6, U', ⟨m0, m1, m2, ⟨m3, m4, m5, m6⟩⟩, cb⟩ (x.s.op ++ [xs]) cb := by
      obtain ⟨s1, s2, s3⟩ := HSn.out
      exact ⟨s1, by show U' = _; rw [← HU'.out, s1]; exact s3, s2, rfl⟩
    have HPt := hid hpt4
    have HPf := hid hpf
    have HIs := hid his4
    have HS4 := hid hs4
    have HBW := hid hbw4
    have HC := hid hc
    clear hs4 ho4 hb4 hGr hpt4 hpf his4 l2 hbw4
    have d0 := BP4.out.cell 0 rfl
    have d1 := BP4.out.cell 1 rfl
    have d2 := BP4.out.cell 2 rfl
    have d3 := BP4.out.cell 3 rfl
    have d4 := BP4.out.cell 4 rfl
    have d5 := BP4.out.cell 5 rfl
    have d6 := BP4.out.cell 6 rfl
    have d7 := BP4.out.cell 7 rfl
    have d8 := BP4.out.cell 8 rfl
    have d9 := BP4.out.cell 9 rfl
    have d10 := BP4.out.cell 10 rfl
    go_wp2_with (first
      | (go_at_call 81
         (with_reducible refine HGr.out.mono ?_)
         intro en W5 hgr
         obtain ⟨rfl, v', ps', hse, hch, hfs, hds⟩ := SeAt.grow HS4.out HBW.out HC.out hgr HPt.out (fun k hk hm => by have := HPf.out k hk; have := HS.out.flt k hm; omega) HIs.out HCN.out (by simp)
         have HSE := hid hse
         have HCH := hid hch
         have HFS := hid hfs
         have HDS := hid hds
         have hb0 := HBk0.out.blk.lt
         have hm0 := HBk0.out.map.lt
         have BB5 : Hid (Blk W5 b [.int .i64 (n : Nat), .int .i64 (sz : Nat), .map (some mb)] 112) := hid (Blk.chg HH4.out.blk hch (fun hk => by have := HXF.out _ hk; omega))
         have M5 : Hid (MapAt W5 mb (bkMap L)) := hid (MapAt.chg HH4.out.map hch (fun hk => by have := HXF.out _ hk; omega))
         have HGet := hid (HH4.out.none_ hi)
         clear hb0 hm0
         clear hgr hse hch hfs hds d0 d1 d2 d3 d4 d5 d6 d7 d8 d9 d10
         have b2 := BB5.out.cell 2 rfl
         have lb := BB5.out.lt)
      | (at_mapUpdate; refine wpList_update_at rfl (.tmp 60) (.tmp 61) (.tmp 62) 109 rfl mb id (.pointer (some ⟨sp, 0, none⟩)) (bkMap L ++ [(id, .pointer (some ⟨sp, 0, none⟩))]) rfl rfl rfl (map_push (k := 24) (e := 110) (by kernel_rfl) (by kernel_rfl) M5.out id _ HGet.out) ?_; intro mt hm6; have HM6 := hid hm6; clear hm6))
    go_ret
    have hm0 := HBk0.out.map.lt
    have hdsn : ∀ k ∈ (⟨x.id, x.sp, v', ps', x.s.with_ (x.s.op ++ [xs]) cb⟩ : Se).ds, w0.heap.size ≤ k := by
      intro k hk
      rcases HDS.out k hk with h | h
      · exact HXD.out k h
      · exact Nat.le_trans HW0.out (HPf.out k h)
    have hfsn : ∀ k ∈ (⟨x.id, x.sp, v', ps', x.s.with_ (x.s.op ++ [xs]) cb⟩ : Se).fs, w0.heap.size ≤ k := by
      intro k hk
      rcases HFS.out k hk with h | h
      · exact HXF.out k h
      · exact Nat.le_trans HW0.out (Nat.le_trans HW4.out h)
    have hs7 : SeAt base (chg [mb] W5 mt) ⟨x.id, x.sp, v', ps', x.s.with_ (x.s.op ++ [xs]) cb⟩ := SeAt.chg HSE.out (chg_chg _ _ _) (fun k hk hm => by simp at hm; subst hm; have := hfsn _ hk; omega) (fun k hk hm => by simp at hm; subst hm; have := hdsn _ hk; omega)
    have hc6 : Chg [mb] w0 (chg [mb] W5 mt) := Chg.then (Chg.then (Chg.trans (Chg.of_ov O0.out [mb]) (Chg.of_ov O4.out [mb])) HCH.out (fun k hk => .inr (HXF.out k hk))) (chg_chg _ _ _) (fun k hk => .inl hk)
    have hsz0 : x.s = Sr.zero := HXS.out
    refine BkPut.push_ HBk0.out hbw0 hi h32 (x' := ⟨x.id, x.sp, v', ps', x.s.with_ (x.s.op ++ [xs]) cb⟩) HXID.out ?_ hs7 hc6 (by rw [HSP.out]; exact HM6.out) hfsn hdsn ?_
    · rw [← hsz0]; exact put_with (by rw [HUL'.out, HUL.out]) HCB.out
    · rw [← hsz0]; exact (put_ok hsz HS.out.ok hop hx HM0.out).2
  refine M2.tree_e (k := 6) rfl ?_ ?_
  · go_wp2_with (fail)
    refine M2.TreeQ.mk ovA ?_
    refine M2.tree_e1 (k := 2) rfl ?_
    go_wp2_with ((first | (go_at_call 80; (with_reducible refine (HCl.out _ ovA).mono ?_); rintro _ _ ⟨⟨e5, rfl⟩, rfl⟩) | (at_builtin; refine wpList_append_full int_elem ics_len ics_one rfl (.tmp 38) (.tmp 42) rfl (ys := us) (xs := [L'.length]) rfl (SlI.clip (by exact slA SI.out)) (by simp only [List.length_singleton]; omega) rfl (by repeat (first | with_reducible refine Sl.drew ?_ | with_reducible refine Sl.over ?_ _ | exact Sl.one_new (y := L'.length) (by simp; try omega))) (by simp only [List.length_singleton]; unfold maxLen; omega) (by simp only [List.length_singleton]; omega) ?_; intro v6 m6x hown6; obtain ⟨a6, c6, hv6, _⟩ := Own.slice ics_len hown6; subst hv6; obtain ⟨U', hU'⟩ : ∃ U', us ++ [L'.length] = U' := ⟨_, rfl⟩; rw [hU'] at hown6 ⊢; have hul' : U'.length = us.length + 1 := (by rw [← hU']; simp); have HU' := hid hU'; have HUL' := hid hul'; have HO6 := hid hown6; clear hown6 hU' hul')))
    refine M2.TreeQ.mk ovA ?_
    refine M2.tree_e1 (k := 7) rfl ?_
    go_wp2_with ((at_builtin; refine wpList_append_full int_elem ics_len ics_one rfl (.tmp 38) (.tmp 42) rfl (ys := us) (xs := [L'.length]) rfl (SlI.clip (by exact slA SI.out)) (by simp only [List.length_singleton]; omega) rfl (by repeat (first | with_reducible refine Sl.drew ?_ | with_reducible refine Sl.over ?_ _ | exact Sl.one_new (y := L'.length) (by simp; try omega))) (by simp only [List.length_singleton]; unfold maxLen; omega) (by simp only [List.length_singleton]; omega) ?_; intro v6 m6x hown6; obtain ⟨a6, c6, hv6, _⟩ := Own.slice ics_len hown6; subst hv6; obtain ⟨U', hU'⟩ : ∃ U', us ++ [L'.length] = U' := ⟨_, rfl⟩; rw [hU'] at hown6 ⊢; have hul' : U'.length = us.length + 1 := (by rw [← hU']; simp); have HU' := hid hU'; have HUL' := hid hul'; have HO6 := hid hown6; clear hown6 hU' hul'))
    refine M2.TreeQ.mk ovA ?_
    repeat (refine M2.tree_q rfl rfl ?_; go_big_quiet_step (fail); with_reducible refine wpQuiet_nil ?_)
    refine M2.tree_l (k := 9) rfl ?_
    go_wp2_with (fail)
    refine M2.LastQ.mk ?_
    refine gen_w ?_
    intro W3 hW3
    have C23 : Hid (Chg [p9] W2 W3) := hid (by rw [hW3]; exact (by exact chA))
    have OI : Hid (OwnI W2.heap.size W3 (.slice a6 U'.length c6) U') := hid (by rw [hW3]; (repeat with_reducible refine Own.drew ?_); exact Own.mono (Own.over_swap HO6.out (by exact szA) (by exact szA)) (by exact szA))
    have BP3 : Hid (Blk W3 p9 [.slice a4 (pack L').length c4, .int .i64 (L'.length : Nat), .slice a6 U'.length c6, .int .i64 m0, .int .i64 m1, .int .i64 m2, .bool m3, .int .u64 (m4 : Nat), .int .u8 (m5 : Nat), .int .u8 (m6 : Nat), .bool false] 123) := hid (by rw [hW3]; (repeat (first | with_reducible refine Blk.on ?_ _ | with_reducible refine Blk.alloc ?_ _ | with_reducible refine Blk.drew ?_)); exact BP.out.set 2 _)
    have O3 : Hid (∃ e, W3 = over w e) := hid (Chg.ov O2.out C23.out (by simp; omega))
    have OB3 : Hid (OwnB (p9 + 1) W3 (.slice a4 (pack L').length c4) (pack L')) := hid (Own.chg OB.out C23.out (fun k hk => by have := (Own.lt OB.out hk).1; simp; omega))
    have BB3 : Hid (Blk W3 b [.int .i64 (n : Nat), .int .i64 (sz : Nat), .map (some mb)] 112) := hid (by obtain ⟨e, he⟩ := O3.out; rw [he]; exact Blk.on HBk.out.blk e)
    have hw3 : W2.heap.size ≤ W3.heap.size := C23.out.size
    clear hW3 c0 c1 c2 f2 lp HO6 hbl hbl2 lb hg
    have c2 := BP3.out.cell 2 rfl
    have c10 := BP3.out.cell 10 rfl
    have f10 := BP3.out.free 10
    have lp := BP3.out.lt
    have hbl := BB3.out.cell 1 rfl
    have lb := BB3.out.lt
    go_wp2_with fail
    refine M2.wp_region_mix [9] 9 (by kernel_rfl) (by kernel_rfl) (by decide) ?_
    simp only [M2.td]
    with_reducible refine M2.mixL_quiet 9 (by kernel_rfl) ?_
    simp only [M2.td]
    repeat (go_big_quiet_step (fail))
    with_reducible refine wpQuiet_nil ?_
    with_reducible refine M2.mixL_nil ?_
    with_reducible refine M2.mixL_eff (by decide) ?_
    go_wp2_with (fail)
    refine M2.MixQ.mk trivial ?_
    with_reducible refine M2.mixL_nil ?_
    obtain ⟨cb, hcb⟩ : ∃ cb, ((U'.length : Int) == (sz : Int)) = cb := ⟨_, rfl⟩
    rw [hcb]
    have HCB := hid hcb
    clear hcb
    refine gen_w ?_
    intro W4 hW4
    have C34 : Hid (Chg [p9] W3 W4) := hid (by rw [hW4]; exact Chg.drew (Chg.setCell (Chg.refl _ _) (.inl (by simp)) _))
    have BP4 : Hid (Blk W4 p9 [.slice a4 (pack L').length c4, .int .i64 (L'.length : Nat), .slice a6 U'.length c6, .int .i64 m0, .int .i64 m1, .int .i64 m2, .bool m3, .int .u64 (m4 : Nat), .int .u8 (m5 : Nat), .int .u8 (m6 : Nat), .bool cb] 123) := hid (by rw [hW4]; exact Blk.drew (BP3.out.set 10 _))
    clear hW4 c2 c10 f10 lp hbl lb
    have O4 : Hid (∃ e, W4 = over w e) := hid (Chg.ov O3.out C34.out (by simp; omega))
    have l2 := BP.out.lt
    have OB4 := hid (Own.chg OB3.out C34.out (fun k hk => by have := (Own.lt OB3.out hk).1; simp; omega))
    have OI4 := hid (Own.chg OI.out C34.out (fun k hk => by have := (Own.lt OI.out hk).1; simp; omega))
    have HW4 : Hid (w.heap.size ≤ W4.heap.size) := hid (by obtain ⟨e, he⟩ := O4.out; rw [he]; simp)
    have hs4 := HS.out.ov O4.out
    have ho4 := HO.out.ov O4.out
    have hb4 : BkAt base W4 b n sz mb L := by obtain ⟨e, he⟩ := O4.out; rw [he]; exact HBk.out.on e
    have hbw4 : base ≤ W4.heap.size := Nat.le_trans hbw HW4.out
    have hGr := grow_any hs4 ho4 (by rw [← hc]; omega) hbw4 ⟨a4, c4, L', a6, c6, U', ⟨m0, m1, m2, ⟨m3, m4, m5, m6⟩⟩, cb⟩
    rw [HSP.out] at hGr
    have HGr := hid hGr
    have HH4 := hid hb4
    have hpt4 : PrtOk base W4 ⟨a4, c4, L', a6, c6, U', ⟨m0, m1, m2, ⟨m3, m4, m5, m6⟩⟩, cb⟩ := by
      refine ⟨(Own.slice' bcs_len OB4.out).2, (Own.slice' ics_len OI4.out).2, fun k hk => ?_⟩
      rcases List.mem_append.1 hk with hk | hk
      · have := Own.lt OB4.out (blk_own hk); omega
      · have := Own.lt OI4.out (blk_own hk); omega
    have hpf : ∀ k ∈ blk? a4 ++ blk? a6, w.heap.size ≤ k := by
      intro k hk
      rcases List.mem_append.1 hk with hk | hk
      · have := Own.lt OB4.out (blk_own hk); omega
      · have := Own.lt OI4.out (blk_own hk); omega
    have his4 : PrtIs ⟨a4, c4, L', a6, c6, U', ⟨m0, m1, m2, ⟨m3, m4, m5, m6⟩⟩, cb⟩ (x.s.op ++ [xs]) cb := by
      obtain ⟨s1, s2, s3⟩ := HSn.out
      exact ⟨s1, by show U' = _; rw [← HU'.out, s1]; exact s3, s2, rfl⟩
    have HPt := hid hpt4
    have HPf := hid hpf
    have HIs := hid his4
    have HS4 := hid hs4
    have HBW := hid hbw4
    have HC := hid hc
    clear hs4 ho4 hb4 hGr hpt4 hpf his4 l2 hbw4
    have d0 := BP4.out.cell 0 rfl
    have d1 := BP4.out.cell 1 rfl
    have d2 := BP4.out.cell 2 rfl
    have d3 := BP4.out.cell 3 rfl
    have d4 := BP4.out.cell 4 rfl
    have d5 := BP4.out.cell 5 rfl
    have d6 := BP4.out.cell 6 rfl
    have d7 := BP4.out.cell 7 rfl
    have d8 := BP4.out.cell 8 rfl
    have d9 := BP4.out.cell 9 rfl
    have d10 := BP4.out.cell 10 rfl
    go_wp2_with (first
      | (go_at_call 81
         (with_reducible refine HGr.out.mono ?_)
         intro en W5 hgr
         obtain ⟨rfl, v', ps', hse, hch, hfs, hds⟩ := SeAt.grow HS4.out HBW.out HC.out hgr HPt.out (fun k hk hm => by have := HPf.out k hk; have := HS.out.flt k hm; omega) HIs.out HCN.out (by simp)
         have HSE := hid hse
         have HCH := hid hch
         have HFS := hid hfs
         have HDS := hid hds
         have hb0 := HBk0.out.blk.lt
         have hm0 := HBk0.out.map.lt
         have BB5 : Hid (Blk W5 b [.int .i64 (n : Nat), .int .i64 (sz : Nat), .map (some mb)] 112) := hid (Blk.chg HH4.out.blk hch (fun hk => by have := HXF.out _ hk; omega))
         have M5 : Hid (MapAt W5 mb (bkMap L)) := hid (MapAt.chg HH4.out.map hch (fun hk => by have := HXF.out _ hk; omega))
         have HGet := hid (HH4.out.none_ hi)
         clear hb0 hm0
         clear hgr hse hch hfs hds d0 d1 d2 d3 d4 d5 d6 d7 d8 d9 d10
         have b2 := BB5.out.cell 2 rfl
         have lb := BB5.out.lt)
      | (at_mapUpdate; refine wpList_update_at rfl (.tmp 60) (.tmp 61) (.tmp 62) 109 rfl mb id (.pointer (some ⟨sp, 0, none⟩)) (bkMap L ++ [(id, .pointer (some ⟨sp, 0, none⟩))]) rfl rfl rfl (map_push (k := 24) (e := 110) (by kernel_rfl) (by kernel_rfl) M5.out id _ HGet.out) ?_; intro mt hm6; have HM6 := hid hm6; clear hm6))
    go_ret
    have hm0 := HBk0.out.map.lt
    have hdsn : ∀ k ∈ (⟨x.id, x.sp, v', ps', x.s.with_ (x.s.op ++ [xs]) cb⟩ : Se).ds, w0.heap.size ≤ k := by
      intro k hk
      rcases HDS.out k hk with h | h
      · exact HXD.out k h
      · exact Nat.le_trans HW0.out (HPf.out k h)
    have hfsn : ∀ k ∈ (⟨x.id, x.sp, v', ps', x.s.with_ (x.s.op ++ [xs]) cb⟩ : Se).fs, w0.heap.size ≤ k := by
      intro k hk
      rcases HFS.out k hk with h | h
      · exact HXF.out k h
      · exact Nat.le_trans HW0.out (Nat.le_trans HW4.out h)
    have hs7 : SeAt base (chg [mb] W5 mt) ⟨x.id, x.sp, v', ps', x.s.with_ (x.s.op ++ [xs]) cb⟩ := SeAt.chg HSE.out (chg_chg _ _ _) (fun k hk hm => by simp at hm; subst hm; have := hfsn _ hk; omega) (fun k hk hm => by simp at hm; subst hm; have := hdsn _ hk; omega)
    have hc6 : Chg [mb] w0 (chg [mb] W5 mt) := Chg.then (Chg.then (Chg.trans (Chg.of_ov O0.out [mb]) (Chg.of_ov O4.out [mb])) HCH.out (fun k hk => .inr (HXF.out k hk))) (chg_chg _ _ _) (fun k hk => .inl hk)
    have hsz0 : x.s = Sr.zero := HXS.out
    refine BkPut.push_ HBk0.out hbw0 hi h32 (x' := ⟨x.id, x.sp, v', ps', x.s.with_ (x.s.op ++ [xs]) cb⟩) HXID.out ?_ hs7 hc6 (by rw [HSP.out]; exact HM6.out) hfsn hdsn ?_
    · rw [← hsz0]; exact put_with (by rw [HUL'.out, HUL.out]) HCB.out
    · rw [← hsz0]; exact (put_ok hsz HS.out.ok hop hx HM0.out).2
  exact M2.tree_no
end Go.Proofs.YtnihngljmmbenaaGreatDoor
