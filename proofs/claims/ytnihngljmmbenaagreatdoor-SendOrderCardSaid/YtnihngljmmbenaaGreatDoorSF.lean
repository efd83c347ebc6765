import Derived.Test.YtnihngljmmbenaaGreatDoorSD
import Derived.Test.YtnihngljmmbenaaGreatDoorSE
import Derived.Test.YtnihngljmmbenaaGreatDoorHD
import Derived.Test.YtnihngljmmbenaaGreatDoorGA
import Derived.Test.YtnihngljmmbenaaGreatDoorSA
namespace Go.Proofs.YtnihngljmmbenaaGreatDoor
set_option linter.unusedVariables false
set_option linter.unusedSimpArgs false
section
open Go.RowKit
attribute [local go_sem] over_drew chg_drew

def plB (a b c a' b' c' : Nat) : Bool := decide ((⟨a, b, c⟩ : Pl) = ⟨a', b', c'⟩)
theorem plB_eq (a b c a' b' c' : Nat) : (((a : Int) == (a' : Int)) && ((b : Int) == (b' : Int)) && ((c : Int) == (c' : Int))) = plB a b c a' b' c' := by
  unfold plB
  rw [Bool.eq_iff_iff]
  simp only [Bool.and_eq_true, beq_iff_eq, decide_eq_true_eq, Pl.mk.injEq]
  omega
theorem place_eqlN (w : World) (a b c a' b' c' : Nat) : (binOp .eql 42 (.agg #[.int .u32 (a : Nat), .int .u32 (b : Nat), .int .u32 (c : Nat)]) (.agg #[.int .u32 (a' : Nat), .int .u32 (b' : Nat), .int .u32 (c' : Nat)])).run Tryz.prog w = .ok (.bool (plB a b c a' b' c')) w := by
  rw [place_eql, plB_eq]
section
variable {base : Nat} {w : World} {p pw pt mt mc ms : Nat} {Fw : List Nat} {st : Sd}
set_option maxHeartbeats 1000000 in
theorem sCome_any (h : SdAt base w p pw pt mt mc ms Fw st) (u : Nat) : Calls Tryz.prog 20 #[.pointer (some ⟨p, 0, none⟩), .int .u32 (u : Nat)] w (Ret w (.agg #[.int .u32 ((st.come u).chunk : Nat), .int .u32 ((st.come u).bits : Nat), .int .u32 ((st.come u).count : Nat)])) := by
  obtain ⟨⟨t0, t1, t2⟩, hcu⟩ : ∃ q, st.come u = q := ⟨_, rfl⟩
  obtain ⟨mm, hk1, hk2⟩ := h.cm
  have HK := hid hk1
  have HV : Hid ((if false = true then (.tuple #[(kGet mm u).getD (.agg #[.int .u32 0, .int .u32 0, .int .u32 0]), .bool (kGet mm u).isSome] : Value) else (kGet mm u).getD (.agg #[.int .u32 0, .int .u32 0, .int .u32 0])) = .agg #[.int .u32 (t0 : Nat), .int .u32 (t1 : Nat), .int .u32 (t2 : Nat)]) := hid (by have := hk2 u; rw [hcu] at this; exact this)
  rw [hcu]
  have c4 := h.blk.cell 4 rfl
  have c5 := h.blk.cell 5 rfl
  have hl := h.here.1
  clear h hk1 hk2 hcu
  go_enter Tryz.func20, Tryz.ntmps20
  go_wp2_with (at_lookup; refine wpList_klookup rfl (.tmp 8) (.tmp 9) 96 false rfl 24 42 (key_u32 (by kernel_rfl)) (by kernel_rfl) (.agg #[.int .u32 0, .int .u32 0, .int .u32 0]) (pl_zero_run _) mc mm rfl (MapK.chg (F := []) HK.out (by exact chA) (by simp)) u rfl _ HV.out ?_)
  (try simp only [Exit.inBlock, Exit.then])
  refine bodyPost_ret (v := ?rv89) ?rh89 rfl ?rp89
  case rh89 => (simp only [results, show Tryz.f20.results = #[.cell 4 42] from rfl]; go_simp; rfl)
  exact ⟨ovA, rfl⟩
theorem sWayN_any (h : SdAt base w p pw pt mt mc ms Fw st) : Calls Tryz.prog 24 #[.pointer (some ⟨p, 0, none⟩)] w (Ret w (.int .i64 (sumN st.ws))) := by
  have HI := hid (sd_in h)
  have c0 := h.blk.cell 0 rfl
  have hl := h.here.1
  clear h
  go_enter Tryz.func24, Tryz.ntmps24
  go_wp2_with (go_at_call 60; (with_reducible refine (HI.out _ ovA).mono ?_); rintro _ _ ⟨⟨e1, rfl⟩, rfl⟩)
  go_ret
  exact ⟨ovA, rfl⟩
theorem sEpoch_any (h : SdAt base w p pw pt mt mc ms Fw st) : Calls Tryz.prog 34 #[.pointer (some ⟨p, 0, none⟩)] w (Ret w (.int .u32 (st.e : Nat))) := by
  have c0 := h.blk.cell 2 rfl
  have hl := h.here.1
  clear h
  go_enter Tryz.func34, Tryz.ntmps34
  go_wp2
  go_ret
  exact ⟨ovA, rfl⟩
end
end
section
open Go.RowKit
attribute [local go_sem] over_drew chg_drew
attribute [local go_sem high] place_eqlN

set_option maxHeartbeats 1000000 in
theorem sDone_any {base : Nat} {w : World} {p pw pt mt mc ms : Nat} {Fw : List Nat} {st : Sd} (h : SdAt base w p pw pt mt mc ms Fw st) {b0 b n sz mb : Nat} {L : List Se} (hbk : BkAt b0 w b n sz mb L) {u : Nat} {s : Sr} (hs : getS (bkOf L) u = s) (hcl : s.cl.length ≤ 900) :
    Calls Tryz.prog 56 #[.pointer (some ⟨p, 0, none⟩), .pointer (some ⟨b, 0, none⟩), .int .u32 (u : Nat)] w (Ret w (.bool (decide (st.come u = s.fin)))) := by
  subst hs
  have HE0 := fun (W : World) (hW : ∃ e, W = over w e) => bend_any (bk_ov hbk hW) u hcl
  obtain ⟨⟨f0, f1, f2⟩, hf⟩ : ∃ q, (getS (bkOf L) u).fin = q := ⟨_, rfl⟩
  rw [hf] at HE0 ⊢
  obtain ⟨⟨t0, t1, t2⟩, hcu⟩ : ∃ q, st.come u = q := ⟨_, rfl⟩
  obtain ⟨mm, hk1, hk2⟩ := h.cm
  have HK := hid hk1
  have HV : Hid ((if false = true then (.tuple #[(kGet mm u).getD (.agg #[.int .u32 0, .int .u32 0, .int .u32 0]), .bool (kGet mm u).isSome] : Value) else (kGet mm u).getD (.agg #[.int .u32 0, .int .u32 0, .int .u32 0])) = .agg #[.int .u32 (t0 : Nat), .int .u32 (t1 : Nat), .int .u32 (t2 : Nat)]) := hid (by have := hk2 u; rw [hcu] at this; exact this)
  rw [hcu]
  have c4 := h.blk.cell 4 rfl
  have hl := h.here.1
  have HR : Hid (decide ((⟨t0, t1, t2⟩ : Pl) = ⟨f0, f1, f2⟩) = plB t0 t1 t2 f0 f1 f2) := hid rfl
  rw [HR.out]
  have HE : Hid (∀ W, (∃ e, W = over w e) → Calls Tryz.prog 21 #[.pointer (some ⟨b, 0, none⟩), .int .u32 (u : Nat)] W (Ret W (.agg #[.int .u32 (f0 : Nat), .int .u32 (f1 : Nat), .int .u32 (f2 : Nat)]))) := hid HE0
  clear h hk1 hk2 hcu hbk hf HE0 hcl
  go_enter Tryz.func56, Tryz.ntmps56
  go_wp2_with fail
  refine M2.wp_region_tree (fun w' => ∃ e : World, w' = over _ e) [5, 8] (.q 0 (.q 1 (.q 2 (.q 3 (.q 4 (.q 6 (.q 7 (.e 5 (.e 8 (.q 9 (.q 10 .done)) .no) (.e 8 (.e 5 (.q 9 (.q 10 .done)) .no) .no))))))))) (by kernel_rfl) (by kernel_rfl) (ex_drew (over_self _)) ?_
  repeat (refine M2.tree_q rfl rfl ?_; go_big_quiet_step (fail); with_reducible refine wpQuiet_nil ?_)
  refine M2.tree_e (k := 5) rfl ?_ ?_
  · go_wp2_with ((first | (at_lookup; refine wpList_klookup rfl (.tmp 10) (.tmp 11) 96 false rfl 24 42 (key_u32 (by kernel_rfl)) (by kernel_rfl) (.agg #[.int .u32 0, .int .u32 0, .int .u32 0]) (pl_zero_run _) mc mm rfl (MapK.chg (F := []) HK.out (by exact chA) (by simp)) u rfl _ HV.out ?_) | (go_at_call 21; (with_reducible refine (HE.out _ ovA).mono ?_); rintro _ _ ⟨⟨e1, rfl⟩, rfl⟩)))
    refine M2.TreeQ.mk ovA ?_
    refine M2.tree_e1 (k := 8) rfl ?_
    go_wp2_with ((first | (at_lookup; refine wpList_klookup rfl (.tmp 10) (.tmp 11) 96 false rfl 24 42 (key_u32 (by kernel_rfl)) (by kernel_rfl) (.agg #[.int .u32 0, .int .u32 0, .int .u32 0]) (pl_zero_run _) mc mm rfl (MapK.chg (F := []) HK.out (by exact chA) (by simp)) u rfl _ HV.out ?_) | (go_at_call 21; (with_reducible refine (HE.out _ ovA).mono ?_); rintro _ _ ⟨⟨e1, rfl⟩, rfl⟩)))
    refine M2.TreeQ.mk ovA ?_
    repeat (refine M2.tree_q rfl rfl ?_; go_big_quiet_step (fail); with_reducible refine wpQuiet_nil ?_)
    refine M2.tree_done ?_
    go_wp2
    go_ret
    exact ⟨ovA, rfl⟩
  refine M2.tree_e (k := 8) rfl ?_ ?_
  · go_wp2_with ((first | (at_lookup; refine wpList_klookup rfl (.tmp 10) (.tmp 11) 96 false rfl 24 42 (key_u32 (by kernel_rfl)) (by kernel_rfl) (.agg #[.int .u32 0, .int .u32 0, .int .u32 0]) (pl_zero_run _) mc mm rfl (MapK.chg (F := []) HK.out (by exact chA) (by simp)) u rfl _ HV.out ?_) | (go_at_call 21; (with_reducible refine (HE.out _ ovA).mono ?_); rintro _ _ ⟨⟨e1, rfl⟩, rfl⟩)))
    refine M2.TreeQ.mk ovA ?_
    refine M2.tree_e1 (k := 5) rfl ?_
    go_wp2_with ((first | (at_lookup; refine wpList_klookup rfl (.tmp 10) (.tmp 11) 96 false rfl 24 42 (key_u32 (by kernel_rfl)) (by kernel_rfl) (.agg #[.int .u32 0, .int .u32 0, .int .u32 0]) (pl_zero_run _) mc mm rfl (MapK.chg (F := []) HK.out (by exact chA) (by simp)) u rfl _ HV.out ?_) | (go_at_call 21; (with_reducible refine (HE.out _ ovA).mono ?_); rintro _ _ ⟨⟨e1, rfl⟩, rfl⟩)))
    refine M2.TreeQ.mk ovA ?_
    repeat (refine M2.tree_q rfl rfl ?_; go_big_quiet_step (fail); with_reducible refine wpQuiet_nil ?_)
    refine M2.tree_done ?_
    go_wp2
    go_ret
    exact ⟨ovA, rfl⟩
  exact M2.tree_no
end
section
open Go.RowKit
attribute [local go_sem] over_drew chg_drew

theorem Own.of_blk {α : Type} {base : Nat} {e : TypeId} {sz : Nat} {cells : α → List Value} {W : World} {g : Nat} {xs : List α} (h : Blk W g (flat cells xs) e) (hb : base ≤ g) (hl : (flat cells xs).length = xs.length * sz) (hm : xs.length ≤ maxLen) : Own base e sz cells W (.slice (some ⟨g, 0, none⟩) xs.length xs.length) xs :=
  ⟨hl, .inr ⟨g, xs.length, (flat cells xs).toArray, rfl, hb, h, Nat.le_refl _, hm, by simpa using hl, by rw [List.take_of_length_le (by simp [hl])]⟩⟩
theorem GrsAt.one {ep base b : Nat} {w w' : World} {g : Nat} {x : Gx} (hr : Blk w' g (x.cs ep) 48) (hg : w.heap.size ≤ g) (hx : OwnB b w x.bv (pack x.t.f.bits)) (hb : base ≤ b) (hbw : base ≤ w.heap.size) (hW : ∃ e, w' = over w e) : GrsAt ep base w' (.slice (some ⟨g, 0, none⟩) 1 1) [x] := by
  have hfl : flat (Gx.cs ep) [x] = x.cs ep := by simp [flat]
  refine ⟨Own.of_blk (xs := [x]) (by rw [hfl]; exact hr) (by omega) (by rw [hfl]; rfl) (by simp [maxLen]), fun y hy => ?_, fun y hy k hk he => ?_⟩
  · simp at hy; subst hy; obtain ⟨e, rfl⟩ := hW; exact (Own.over hx e).mono hb
  · simp at hy; subst hy
    have := (Own.lt hx hk).2
    simp [Value.ownBlock] at he
    omega
def CutZ (W : World) (u ch fk : Nat) (fcl : Bool) (fsm : Nat) (fbi : List Bool) (bl tc tb tn : Nat) (en : Ending) (w' : World) : Prop :=
  ∃ a cap, en = .returned (.tuple #[.agg #[.int .u8 0, .int .u32 0, .int .u32 (u : Nat), .int .u32 (ch : Nat), .int .u32 0, .int .u32 0, .int .u32 (fk : Nat), .bool fcl, .int .u64 (fsm : Nat), .slice a (pack fbi).length cap, .int .i64 (bl : Nat)], .agg #[.int .u32 (tc : Nat), .int .u32 (tb : Nat), .int .u32 (tn : Nat)], .int .u16 0]) ∧ (∃ e, w' = over W e) ∧ OwnB W.heap.size w' (.slice a (pack fbi).length cap) (pack fbi)
def CutZ0 (W : World) (ch : Nat) (en : Ending) (w' : World) : Prop :=
  ∃ a cap, en = .returned (.tuple #[.agg #[.int .u8 0, .int .u32 0, .int .u32 0, .int .u32 0, .int .u32 0, .int .u32 0, .int .u32 0, .bool false, .int .u64 0, .slice a 0 cap, .int .i64 0], .agg #[.int .u32 (ch : Nat), .int .u32 0, .int .u32 0], .int .u16 0]) ∧ (∃ e, w' = over W e)
theorem an_fin {base : Nat} {w : World} {b n sz mb : Nat} {L : List Se} (h : BkAt base w b n sz mb L) {u : Nat} {s : Sr} (hs : getS (bkOf L) u = s) {ch : Nat} (hp : IsPl s ⟨ch, 0, 0⟩) (hcl : s.cl.length ≤ 900) (hc : cutS s u ⟨ch, 0, 0⟩ 1073741824 = none) (W : World) (hW : ∃ e, W = over w e) :
    Calls Tryz.prog 17 #[.pointer (some ⟨b, 0, none⟩), .int .u32 (u : Nat), .agg #[.int .u32 (ch : Nat), .int .u32 0, .int .u32 0], .int .i64 1073741824] W (CutZ0 W ch) := by
  refine (pm_fin h hs hp hcl (by omega) hc W hW).mono ?_
  rintro en w' ⟨a, cap, rfl, ho, _⟩
  exact ⟨a, cap, rfl, ho⟩
theorem an_cut {base : Nat} {w : World} {b n sz mb : Nat} {L : List Se} (h : BkAt base w b n sz mb L) {u : Nat} {s : Sr} (hs : getS (bkOf L) u = s) {ch : Nat} (hcl : s.cl.length ≤ 900) {fk : Nat} {fcl : Bool} {fsm : Nat} {fbi : List Bool} {tc tb tn : Nat} (hc : PmC s u ch 0 0 1073741824 fk fcl fsm fbi tc tb tn) (W : World) (hW : ∃ e, W = over w e) :
    Calls Tryz.prog 17 #[.pointer (some ⟨b, 0, none⟩), .int .u32 (u : Nat), .agg #[.int .u32 (ch : Nat), .int .u32 0, .int .u32 0], .int .i64 1073741824] W (CutZ W u ch fk fcl fsm fbi fbi.length tc tb tn) := by
  refine (cut_c h hs hcl (by omega) hc W hW).mono ?_
  rintro en w' ⟨a, cap, rfl, ho, hb⟩
  exact ⟨a, cap, rfl, ho, hb⟩
set_option maxRecDepth 100000 in
set_option maxHeartbeats 4000000 in
theorem sAnew_any {base : Nat} {w : World} {p pw pt mt mc ms : Nat} {Fw : List Nat} {st : Sd} (h : SdAt base w p pw pt mt mc ms Fw st) (hb : base ≤ w.heap.size) {b0 b n sz mb : Nat} {L : List Se} (hbk : BkAt b0 w b n sz mb L) (hsep : ∀ k ∈ bkB b mb L, k ∉ sndF p pw pt mt mc ms Fw) {u : Nat} (hu : u < 4294967296) {s : Sr} (hs : getS (bkOf L) u = s) (hcl : s.cl.length ≤ 900) (hpl : IsPl s (st.come u)) (hnow : st.now + st.tk < 18446744073709551616) :
    Calls Tryz.prog 53 #[.pointer (some ⟨p, 0, none⟩), .pointer (some ⟨b, 0, none⟩), .int .u32 (u : Nat)] w
      (SdFr base w p pw pt mt mc ms Fw st.e (anewS s u st).1 (anewS s u st).2 (fun v => v)) := by
  have HBa := hid (fun W (hW : ∃ e, W = over w e) => sBack_any (h.ov hW) u)
  have HBK := hid (fun (wr : World) (hc : Chg (sndF p pw pt mt mc ms Fw) w wr) => hbk.cg hc hsep)
  have hok : SrOk s := by rw [← hs]; exact getS_ok hbk u
  have hch : IsPl s ⟨(st.come u).chunk, 0, 0⟩ := isPl_zero hok _ (isPl_le hok hpl).2.2
  obtain ⟨⟨ch, cb, cn⟩, hco⟩ : ∃ q, st.come u = q := ⟨_, rfl⟩
  rw [hco] at hch
  simp only at hch
  have HCO := hid hco
  have HS := hid hs
  have HOK := hid hok
  have HCH := hid hch
  have HNOW := hid hnow
  have HB := hid hb
  have c0 := h.here.1
  have hAN : ∀ f to, cutS s u ⟨ch, 0, 0⟩ 1073741824 = Option.some (f, to) → anewS s u st = ([⟨3, { f with sum := 0 }⟩], { (st.back u).way u ⟨ch, 0, 0⟩ to f.bits.length with ts := tput st.ts ⟨u, 0, st.now + st.tk⟩ }) := fun f to hc => by
    unfold anewS
    have : ((st.back u).come u).chunk = ch := by show (st.come u).chunk = ch; rw [hco]
    simp only [this, hc]
    rfl
  have hAN0 : cutS s u ⟨ch, 0, 0⟩ 1073741824 = none → anewS s u st = ([], st.back u) := fun hc => by
    unfold anewS
    have : ((st.back u).come u).chunk = ch := by show (st.come u).chunk = ch; rw [hco]
    simp only [this, hc]
  have HAN := hid hAN
  have HAN0 := hid hAN0
  have HE : Hid ((st.back u).e = st.e ∧ (st.back u).now = st.now ∧ (st.back u).tk = st.tk ∧ (st.back u).ts = st.ts ∧ (st.back u).come u = ⟨ch, cb, cn⟩) := hid ⟨rfl, rfl, rfl, rfl, hco⟩
  have hfd : ∀ (x y z : Int) (W : World), (Instr.field 42 (.agg #[.int .u32 x, .int .u32 y, .int .u32 z]) 0).run Tryz.prog W = .ok (.int .u32 x) W := fun _ _ _ _ => by kernel_rfl
  clear h hb hbk hsep hs hpl hnow hok hch hco hAN hAN0
  obtain ⟨st1, hst1⟩ : ∃ x, st.back u = x := ⟨_, rfl⟩
  rw [hst1] at HE HAN HAN0 HBa
  clear hst1
  cases hcut : cutS s u ⟨ch, 0, 0⟩ 1073741824 with
  | none =>
    have hA := HAN0.out hcut
    rw [hA]
    have HCut := hid (fun (wr : World) (hc : Chg (sndF p pw pt mt mc ms Fw) w wr) => an_fin (HBK.out wr hc) HS.out HCH.out hcl hcut)
    clear hcut hA HAN HAN0 HBK
    go_enter Tryz.func53, Tryz.ntmps53
    go_wp2_with (first
      | (go_at_call 55
         (with_reducible refine (HBa.out _ ovA).mono ?_)
         rintro _ w2 ⟨rfl, F2, hto⟩
         have T2 := hid (SdTo.ov0 (by exact ovA) hto)
         have HC2 := hid (HCut.out w2 T2.out.ch)
         have d4 := T2.out.at_.blk.cell 4 rfl
         have dl := T2.out.at_.here.1
         obtain ⟨mm, hk1, hk2⟩ := T2.out.at_.cm
         have HK := hid hk1
         have HV : Hid ((if false = true then (.tuple #[(kGet mm u).getD (.agg #[.int .u32 0, .int .u32 0, .int .u32 0]), .bool (kGet mm u).isSome] : Value) else (kGet mm u).getD (.agg #[.int .u32 0, .int .u32 0, .int .u32 0])) = .agg #[.int .u32 (ch : Nat), .int .u32 (cb : Nat), .int .u32 (cn : Nat)]) := hid (by have := hk2 u; rw [HE.out.2.2.2.2] at this; exact this)
         clear hto hk1 hk2 HBa HCut)
      | (at_lookup; refine wpList_klookup rfl (.tmp 19) (.tmp 20) 96 false rfl 24 42 (key_u32 (by kernel_rfl)) (by kernel_rfl) (.agg #[.int .u32 0, .int .u32 0, .int .u32 0]) (pl_zero_run _) mc mm rfl (MapK.chg (F := []) HK.out (by exact chA) (by simp)) u rfl _ HV.out ?_)
      | (go_at_call 17; (with_reducible refine (HC2.out _ ovA).mono ?_); rintro _ w6 ⟨a6, c6, rfl, ⟨e6, rfl⟩⟩))
    go_ret
    exact ⟨_, [], F2, rfl, rfl, GrsAt.nil _ _ _, T2.out.ov ovA, by simp [grsB, Value.ownBlock]⟩
  | some y =>
    obtain ⟨f, to⟩ := y
    have hA := HAN.out f to hcut
    rw [hA]
    obtain ⟨fk, fcl, fsm, fbi, tc, tb, tn, hpc, rfl, rfl⟩ := pmc_of HOK.out hcut
    have HCut := hid (fun (wr : World) (hc : Chg (sndF p pw pt mt mc ms Fw) w wr) => an_cut (HBK.out wr hc) HS.out hcl hpc)
    have HPC := hid hpc
    have hfk := hpc.ct
    have q1 : ((fk : Int) == 0) = false := by rw [beq_eq_false_iff_ne]; omega
    have q2 : (fk == 0) = false := by rw [beq_eq_false_iff_ne]; omega
    have hwf : (⟨(u : Nat), (⟨ch, 0, 0⟩ : Pl).w, (⟨tc, tb, tn⟩ : Pl).w, (fbi.length : Nat)⟩ : Pc).wf := pc_wf HOK.out hcl HCH.out hpc.pl hu hpc.len
    have HWF := hid hwf
    obtain ⟨N, hN⟩ : ∃ N, fbi.length = N := ⟨_, rfl⟩
    have HN := hid hN
    clear hcut hA HAN HAN0 HBK hpc hwf
    rw [hN] at HCut
    clear hN
    go_enter Tryz.func53, Tryz.ntmps53
    go_wp2_with (first
      | (go_at_call 55
         (with_reducible refine (HBa.out _ ovA).mono ?_)
         rintro _ w2 ⟨rfl, F2, hto⟩
         have T2 := hid (SdTo.ov0 (by exact ovA) hto)
         have HC2 := hid (HCut.out w2 T2.out.ch)
         have d4 := T2.out.at_.blk.cell 4 rfl
         have dl := T2.out.at_.here.1
         obtain ⟨mm, hk1, hk2⟩ := T2.out.at_.cm
         have HK := hid hk1
         have HV : Hid ((if false = true then (.tuple #[(kGet mm u).getD (.agg #[.int .u32 0, .int .u32 0, .int .u32 0]), .bool (kGet mm u).isSome] : Value) else (kGet mm u).getD (.agg #[.int .u32 0, .int .u32 0, .int .u32 0])) = .agg #[.int .u32 (ch : Nat), .int .u32 (cb : Nat), .int .u32 (cn : Nat)]) := hid (by have := hk2 u; rw [HE.out.2.2.2.2] at this; exact this)
         clear hto hk1 hk2 HBa HCut)
      | (at_lookup; refine wpList_klookup rfl (.tmp 19) (.tmp 20) 96 false rfl 24 42 (key_u32 (by kernel_rfl)) (by kernel_rfl) (.agg #[.int .u32 0, .int .u32 0, .int .u32 0]) (pl_zero_run _) mc mm rfl (MapK.chg (F := []) HK.out (by exact chA) (by simp)) u rfl _ HV.out ?_)
      | (go_at_call 17; (with_reducible refine (HC2.out _ ovA).mono ?_); rintro _ w6 ⟨a6, c6, rfl, hov6, ob6⟩; have O6 := hid hov6; have N6 : Hid (OwnB w2.heap.size w6 (.slice a6 (pack fbi).length c6) (pack fbi)) := hid (Own.mono ob6 (by simp)); clear hov6 ob6))
    refine gen_w ?_
    intro W6 hW6
    obtain ⟨q, hq⟩ : ∃ q, q = w6.heap.size := ⟨_, rfl⟩
    have O66 : Hid (∃ e, W6 = over w2 e) := hid (by rw [hW6]; exact (ovB O6.out))
    have B8 : Hid (Blk W6 q [.int .u8 0, .int .u32 0, .int .u32 (u : Nat), .int .u32 (ch : Nat), .int .u32 0, .int .u32 0, .int .u32 (fk : Nat), .bool fcl, .int .u64 (fsm : Nat), .slice a6 (pack fbi).length c6, .int .i64 (N : Nat)] 48) := hid (by rw [hW6, hq]; exact (by exact blA))
    have B9 : Hid (Blk W6 (q + 1) [.int .u32 (tc : Nat), .int .u32 (tb : Nat), .int .u32 (tn : Nat)] 42) := hid (by rw [hW6, hq]; exact (by exact blA))
    have N66 : Hid (OwnB w2.heap.size W6 (.slice a6 (pack fbi).length c6) (pack fbi)) := hid (by rw [hW6]; exact (by exact ownA N6.out))
    have hqw : w2.heap.size ≤ q := by rw [hq]; exact sz_over O6.out
    have hqb : Hid ((Value.slice a6 (pack fbi).length c6).ownBlock ≠ some q) := hid (fun he => by have := (Own.lt N6.out he).2; omega)
    rw [← hq]
    clear hW6 hq N6 O6 HK HV HC2 d4
    have X6 := hid (T2.out.ov O66.out)
    have d2 : W6.cell? ⟨p, 2, none⟩ = some (.int .u32 (st.e : Nat)) := by rw [← HE.out.1]; exact X6.out.at_.blk.cell 2 rfl
    have p6 := X6.out.at_.here.1
    have pq : p ≠ q := by omega
    have e8 := B8.out.lt
    have e80 := B8.out.cell 0 rfl
    have e81 := B8.out.cell 1 rfl
    have e88 := B8.out.cell 8 rfl
    have ef : ∀ j, W6.frozen? ⟨q, j, none⟩ = false := fun j => B8.out.free j
    have hqn := hid hqw
    obtain ⟨F, hF⟩ : ∃ F, F = [q] := ⟨_, rfl⟩
    have nq : q ∈ F := by rw [hF]; simp
    have np : p ∉ F := by rw [hF]; simpa using pq
    have HF := hid hF
    clear hF hqw
    go_wp2
    refine M2.wp_region_mixZ (fun w' => ∃ m : Mut, w' = chg F _ m) [5, 7, 9] 10 (by kernel_rfl) (by kernel_rfl) (by decide) (chg_of (Chg.refl _ _)) ?_
    simp only [M2.td]
    with_reducible refine M2.mixL_quiet 5 (by kernel_rfl) ?_
    simp only [M2.td]
    repeat (go_big_quiet_step (fail))
    with_reducible refine wpQuiet_nil ?_
    with_reducible refine M2.mixL_eff (by decide) ?_
    go_wp2_with (fail)
    refine M2.MixQ.mk (chg_of (by exact chA)) ?_
    with_reducible refine M2.mixL_quiet 1 (by kernel_rfl) ?_
    simp only [M2.td]
    repeat (go_big_quiet_step (fail))
    with_reducible refine wpQuiet_nil ?_
    with_reducible refine M2.mixL_eff (by decide) ?_
    go_wp2_with (fail)
    refine M2.MixQ.mk (chg_of (by exact chA)) ?_
    with_reducible refine M2.mixL_quiet 1 (by kernel_rfl) ?_
    simp only [M2.td]
    repeat (go_big_quiet_step (fail))
    with_reducible refine wpQuiet_nil ?_
    with_reducible refine M2.mixL_eff (by decide) ?_
    go_wp2_with (fail)
    refine M2.MixQ.mk (chg_of (by exact chA)) ?_
    with_reducible refine M2.mixL_nil ?_
    with_reducible refine M2.mixL_nil ?_
    refine gen_w ?_
    intro W7 hW7
    have C67 : Hid (Chg [q] W6 W7) := hid (by rw [hW7]; exact (by exact chA))
    have B87 : Hid (Blk W7 q [.int .u8 3, .int .u32 (st.e : Nat), .int .u32 (u : Nat), .int .u32 (ch : Nat), .int .u32 0, .int .u32 0, .int .u32 (fk : Nat), .bool fcl, .int .u64 0, .slice a6 (pack fbi).length c6, .int .i64 (N : Nat)] 48) := hid (by rw [hW7]; exact Blk.drew (((B8.out.set 0 _).set 1 _).set 8 _))
    have B97 := hid (B9.out.chg C67.out (by simp))
    have N7 := hid (Own.chg N66.out C67.out (fun g hg hm => by simp at hm; subst hm; exact hqb.out hg))
    have O7 : Hid (∃ e, W7 = over w2 e) := hid (Chg.ov O66.out C67.out (by simp; exact hqn.out))
    clear hW7 C67 B8 B9 N66 X6 d2 p6 pq e8 e80 e81 e88 ef nq np HF hqb O66
    have r0 := B87.out.cell 0 rfl
    have r1 := B87.out.cell 1 rfl
    have r2 := B87.out.cell 2 rfl
    have r3 := B87.out.cell 3 rfl
    have r4 := B87.out.cell 4 rfl
    have r5 := B87.out.cell 5 rfl
    have r6 := B87.out.cell 6 rfl
    have r7 := B87.out.cell 7 rfl
    have r8 := B87.out.cell 8 rfl
    have r9 := B87.out.cell 9 rfl
    have ra := B87.out.cell 10 rfl
    have rl := B87.out.lt
    have z0 := B97.out.cell 0 rfl
    have z1 := B97.out.cell 1 rfl
    have z2 := B97.out.cell 2 rfl
    have zl := B97.out.lt
    have X7 := hid (T2.out.ov O7.out)
    have hWay0 := fun (W : World) (hW : ∃ e, W = over W7 e) => sWay_any (X7.out.at_.ov hW) (Nat.le_trans (Nat.le_trans HB.out X7.out.sz) (sz_over hW)) 3 (st.e : Nat) (fk : Nat) 0 fcl a6 (pack fbi).length c6 u N ⟨ch, 0, 0⟩ ⟨tc, tb, tn⟩ (by have := HWF.out; rw [HN.out] at this; exact this)
    have hst3 : ∃ x, st1.way u ⟨ch, 0, 0⟩ ⟨tc, tb, tn⟩ N = x := ⟨_, rfl⟩
    obtain ⟨st3, hst3⟩ := hst3
    simp only [hst3] at hWay0
    have HWay : Hid (∀ W, (∃ e, W = over W7 e) → Calls Tryz.prog 42 #[.pointer (some ⟨p, 0, none⟩), .agg #[.int .u8 3, .int .u32 (st.e : Nat), .int .u32 (u : Nat), .int .u32 (ch : Nat), .int .u32 0, .int .u32 0, .int .u32 (fk : Nat), .bool fcl, .int .u64 0, .slice a6 (pack fbi).length c6, .int .i64 (N : Nat)], .agg #[.int .u32 (tc : Nat), .int .u32 (tb : Nat), .int .u32 (tn : Nat)]] W (SdV base W p pw pt mt mc ms F2 st3 (.tuple #[]))) := hid hWay0
    have h3n : st3.now + st3.tk < 18446744073709551616 := by rw [← hst3]; show st1.now + st1.tk < _; rw [HE.out.2.1, HE.out.2.2.1]; exact HNOW.out
    have H3N := hid h3n
    have hnx1 : st3.ts = st.ts := by rw [← hst3]; exact HE.out.2.2.2.1
    have hnx2 : st3.now = st.now := by rw [← hst3]; exact HE.out.2.1
    have hnx3 : st3.tk = st.tk := by rw [← hst3]; exact HE.out.2.2.1
    have HNX : Hid (({ st3 with ts := tput st3.ts ⟨u, 0, st3.now + st3.tk⟩ } : Sd) = { st1.way u ⟨ch, 0, 0⟩ ⟨tc, tb, tn⟩ fbi.length with ts := tput st.ts ⟨u, 0, st.now + st.tk⟩ }) := hid (by rw [HN.out, hst3]; simp only [hnx1, hnx2, hnx3])
    clear hnx1 hnx2 hnx3
    clear hWay0 hst3 h3n HWF
    go_wp2_with (
      go_at_call 42
      (with_reducible refine (HWay.out _ ovA).mono ?_)
      rintro _ w10 ⟨rfl, F3, hto⟩
      have hto7 := SdTo.ov0 (by exact ovA) hto
      have X10 := hid (X7.out.trans hto7)
      have hqs : q ∉ sndF p pw pt mt mc ms F2 := fun hm => by have := (T2.out.at_.lt q hm).2; have := hqn.out; omega
      have HBS : Hid (∀ g, (Value.slice a6 (pack fbi).length c6).ownBlock = some g → g ∉ sndF p pw pt mt mc ms F2) := hid (fun g hg hm => by have := (T2.out.at_.lt g hm).2; have := (Own.lt N7.out hg).1; omega)
      have B8X := hid (B87.out.chg hto7.ch hqs)
      have N10 := hid (Own.chg N7.out hto7.ch HBS.out)
      have HF3 : Hid (∀ k ∈ F3, k ∈ F2 ∨ W7.heap.size ≤ k) := hid hto7.nw
      have HSt := hid (sd_again X10.out.at_ u H3N.out)
      have d1 := X10.out.at_.blk.cell 1 rfl
      have d3 := X10.out.at_.blk.cell 3 rfl
      have pl10 := X10.out.at_.here.1
      clear hto hto7 HWay hqs HBS r0 r1 r2 r3 r4 r5 r6 r7 r8 r9 ra rl z0 z1 z2 zl B97)
    refine M2.wp_region_mix [9] 9 (by kernel_rfl) (by kernel_rfl) (by decide) ?_
    simp only [M2.td]
    with_reducible refine M2.mixL_quiet 9 (by kernel_rfl) ?_
    simp only [M2.td]
    repeat (go_big_quiet_step (fail))
    with_reducible refine wpQuiet_nil ?_
    with_reducible refine M2.mixL_nil ?_
    with_reducible refine M2.mixL_eff (by decide) ?_
    go_wp2_with ((go_at_call 58; (with_reducible refine (HSt.out _ ovA).mono ?_); rintro _ w11 ⟨⟨v11, rfl⟩, hto, hc11⟩; have X11 := hid (X10.out.trans hto); have hmt : mt < w2.heap.size := (T2.out.at_.lt mt (by simp [sndF])).2; have C11 : Hid (Chg [mt] w10 w11) := hid (Chg.trans (by exact chA) hc11); have hqt : q ≠ mt := (by have := hqn.out; omega); have B11 := hid (B8X.out.chg C11.out (by simpa using hqt)); have N11 := hid (Own.chg N10.out C11.out (fun g hg hm => by simp at hm; subst hm; have := (Own.lt N10.out hg).1; omega)); clear hto hc11 HSt))
    refine M2.MixQ.mk trivial ?_
    with_reducible refine M2.mixL_nil ?_
    have r0 := B11.out.cell 0 rfl
    have r1 := B11.out.cell 1 rfl
    have r2 := B11.out.cell 2 rfl
    have r3 := B11.out.cell 3 rfl
    have r4 := B11.out.cell 4 rfl
    have r5 := B11.out.cell 5 rfl
    have r6 := B11.out.cell 6 rfl
    have r7 := B11.out.cell 7 rfl
    have r8 := B11.out.cell 8 rfl
    have r9 := B11.out.cell 9 rfl
    have ra := B11.out.cell 10 rfl
    have rl := B11.out.lt
    go_wp2_with fail
    go_ret
    have hx : Gx.cs st.e (⟨⟨3, ⟨u, ⟨ch, 0, 0⟩, fk, fcl, 0, fbi⟩⟩, a6, c6⟩ : Gx) = [.int .u8 3, .int .u32 (st.e : Nat), .int .u32 (u : Nat), .int .u32 (ch : Nat), .int .u32 0, .int .u32 0, .int .u32 (fk : Nat), .bool fcl, .int .u64 0, .slice a6 (pack fbi).length c6, .int .i64 (N : Nat)] := by rw [← HN.out]; rfl
    rw [HNX.out] at X11
    refine ⟨_, [(⟨⟨3, ⟨u, ⟨ch, 0, 0⟩, fk, fcl, 0, fbi⟩⟩, a6, c6⟩ : Gx)], F3, rfl, rfl, GrsAt.one (b := w2.heap.size) (w := w11) (by rw [hx]; exact (by exact blA)) (by simp) N11.out T2.out.sz ?_ ovA, X11.out.ov ovA, ?_⟩
    · exact X11.out.sz
    · intro k hk hm
      have h1 := (X11.out.at_.lt k (sndF_w hm)).2
      rcases List.mem_append.1 hk with hk | hk
      · simp [Value.ownBlock] at hk; omega
      · obtain ⟨x, hx, hk⟩ := List.mem_flatMap.1 hk
        rw [List.mem_singleton] at hx
        subst hx
        have hk2 : (Value.slice a6 (pack fbi).length c6).ownBlock = some k := Option.mem_toList.1 hk
        have h2 := Own.lt N7.out hk2
        rcases HF3.out k hm with h3 | h3
        · have := (T2.out.at_.lt k (sndF_w h3)).2; omega
        · omega
end
section
open Go.RowKit
attribute [local go_sem] over_drew chg_drew

theorem at_prt {x : Se} {base : Nat} {w : World} (h : SeAt base w x) {k : Nat} (hk : k < x.ps.length) : ∃ c cl, x.s.at_ k = Option.some (c, cl) ∧ PrtIs x.ps[k] c cl ∧ PrtOk base w x.ps[k] ∧ ChkOk c := by
  have hl := h.is_.len
  rcases Nat.lt_or_ge k x.s.cl.length with h1 | h1
  · exact ⟨x.s.cl[k], true, by simp [Sr.at_, h1], h.is_.cl k h1, h.pts _ (List.getElem_mem hk), (h.ok.cl _ (List.getElem_mem h1)).2⟩
  · obtain rfl : k = x.s.cl.length := by omega
    exact ⟨x.s.op, false, by simp [Sr.at_], h.is_.op, h.pts _ (List.getElem_mem hk), h.ok.op⟩
set_option maxRecDepth 100000 in
set_option maxHeartbeats 2000000 in
theorem part_no {base : Nat} {w : World} {x : Se} (h : SeAt base w x) {g cap m : Nat} (ho : SeO w x g cap m) (hb : m ≤ 1000000) {pc pb pn : Nat} (hpc3 : pc < 4294967296) (hpb3 : pb < 4294967296) (hpn3 : pn < 4294967296) (hh : hasS x.s ⟨pc, pb, pn⟩ = none) :
    Calls Tryz.prog 47 #[.pointer (some ⟨x.sp, 0, none⟩), .agg #[.int .u32 (pc : Nat), .int .u32 (pb : Nat), .int .u32 (pn : Nat)]] w (Ret w (.pointer none)) := by
  have hg := ho.lt
  have r0 := h.blk.cell 0 rfl
  rw [ho.hv] at r0
  have l0 := h.blk.lt
  by_cases hpc : m + 1 ≤ pc
  · have d1 : decide ((m : Int) + 1 ≤ (pc : Int)) = true := decide_eq_true (by omega)
    clear ho h hh hpc
    go_enter Tryz.func47, Tryz.ntmps47
    go_wp2
    refine wp_region_over (by kernel_rfl) (by kernel_rfl) ?_
    repeat (go_big_quiet_step ((fail)))
    refine wpQuiet_nil ?_
    intro _ hw'
    obtain ⟨nq, rfl⟩ := hw'
    go_wp2
    go_ret
    exact ⟨ovA, rfl⟩
  · have hpk : pc < x.ps.length := by have := ho.hl; omega
    obtain ⟨c, cl, ha, his, hpo, hck⟩ := at_prt h hpk
    have hpO := ho.part hpk
    have hno := hasS_no.1 hh c cl
    obtain ⟨pt, hptx⟩ : ∃ pt, x.ps[pc]'hpk = pt := ⟨_, rfl⟩
    rw [hptx] at his hpo hpO
    have hul : pt.us.length = c.length := by rw [his.us, endsK_len]
    have HT := hid (fun n (hn : n ≤ c.length) W (hW : ∃ e, W = over w e) => to_any (hpO.ov hg hW) (by obtain ⟨e, rfl⟩ := hW; simp; omega) (Sl.ov hpo.e hW) hck his.us n hn)
    have r2 := hpO.r2
    have r10 := hpO.r10
    rw [his.cl] at r10
    rw [hul] at r2
    have h3 := hck.len
    have hble := blen_le hck pn
    obtain ⟨cn, hcn⟩ : ∃ cn, c.length = cn := ⟨_, rfl⟩
    have hno2 : ¬ (pn ≤ cn ∧ (cl = true → pn < cn) ∧ blen c pn = pb) := fun hx => hno ⟨ha, by rw [hcn]; exact hx.1, fun hb => by rw [hcn]; exact hx.2.1 hb, hx.2.2⟩
    rw [hcn] at r2 h3 HT
    have d1 : decide ((m : Int) + 1 ≤ (pc : Int)) = false := decide_eq_false (by omega)
    have hpm : pc ≤ m := by omega
    clear hno his hpo hpO hptx hck hh ho h ha hcn hul hpc
    by_cases h1 : cn < pn
    · have d2 : decide ((cn : Int) < (pn : Int)) = true := decide_eq_true (by omega)
      have d3 : decide (cn < pn) = true := decide_eq_true h1
      clear hno2 HT
      go_enter Tryz.func47, Tryz.ntmps47
      go_wp2
      refine wp_region_over (by kernel_rfl) (by kernel_rfl) ?_
      repeat (go_big_quiet_step ((fail)))
      refine wpQuiet_nil ?_
      intro _ hw'
      obtain ⟨nq, rfl⟩ := hw'
      go_wp2
      refine wp_region_over (by kernel_rfl) (by kernel_rfl) ?_
      repeat (go_big_quiet_step ((fail)))
      refine wpQuiet_nil ?_
      intro _ hw'
      obtain ⟨nq, rfl⟩ := hw'
      go_wp2
      refine wp_region_over (by kernel_rfl) (by kernel_rfl) ?_
      repeat (go_big_quiet_step ((fail)))
      refine wpQuiet_nil ?_
      intro _ hw'
      obtain ⟨nq, rfl⟩ := hw'
      go_wp2
      go_ret
      exact ⟨ovA, rfl⟩
    · have d2 : decide ((cn : Int) < (pn : Int)) = false := decide_eq_false (by omega)
      have d3 : decide (cn < pn) = false := decide_eq_false h1
      have HT2 := hid (HT.out pn (by omega))
      obtain ⟨bl, hbl⟩ : ∃ bl, blen c pn = bl := ⟨_, rfl⟩
      rw [hbl] at HT2 hno2 hble
      clear HT hbl
      cases cl with
      | false =>
        have hne : bl ≠ pb := fun e => hno2 ⟨by omega, by simp, e⟩
        have q1 : ((bl : Int) == (pb : Int)) = false := by rw [beq_eq_false_iff_ne]; omega
        have q2 : ((bl : Int) != (pb : Int)) = true := by unfold bne; rw [q1]; rfl
        have q3 : (bl == pb) = false := by rw [beq_eq_false_iff_ne]; omega
        have q4 : (bl != pb) = true := by unfold bne; rw [q3]; rfl
        clear hne hno2
        go_enter Tryz.func47, Tryz.ntmps47
        go_wp2
        refine wp_region_over (by kernel_rfl) (by kernel_rfl) ?_
        repeat (go_big_quiet_step ((fail)))
        refine wpQuiet_nil ?_
        intro _ hw'
        obtain ⟨nq, rfl⟩ := hw'
        go_wp2
        refine wp_region_over (by kernel_rfl) (by kernel_rfl) ?_
        repeat (go_big_quiet_step ((fail)))
        refine wpQuiet_nil ?_
        intro _ hw'
        obtain ⟨nq, rfl⟩ := hw'
        go_wp2
        refine wp_region_over (by kernel_rfl) (by kernel_rfl) ?_
        repeat (go_big_quiet_step ((go_at_call 50; exact quiet_over (HT2.out _ ovA))))
        refine wpQuiet_nil ?_
        intro _ hw'
        obtain ⟨nq, rfl⟩ := hw'
        go_wp2
        go_ret
        exact ⟨ovA, rfl⟩
      | true =>
        by_cases h2 : pn = cn
        · have d4 : ((pn : Int) == (cn : Int)) = true := by rw [beq_iff_eq]; omega
          have d5 : (pn == cn) = true := by rw [beq_iff_eq]; omega
          clear hno2 HT2 h2
          go_enter Tryz.func47, Tryz.ntmps47
          go_wp2
          refine wp_region_over (by kernel_rfl) (by kernel_rfl) ?_
          repeat (go_big_quiet_step ((fail)))
          refine wpQuiet_nil ?_
          intro _ hw'
          obtain ⟨nq, rfl⟩ := hw'
          go_wp2
          refine wp_region_over (by kernel_rfl) (by kernel_rfl) ?_
          repeat (go_big_quiet_step ((fail)))
          refine wpQuiet_nil ?_
          intro _ hw'
          obtain ⟨nq, rfl⟩ := hw'
          go_wp2
          refine wp_region_over (by kernel_rfl) (by kernel_rfl) ?_
          repeat (go_big_quiet_step ((fail)))
          refine wpQuiet_nil ?_
          intro _ hw'
          obtain ⟨nq, rfl⟩ := hw'
          go_wp2
          go_ret
          exact ⟨ovA, rfl⟩
        · have d4 : ((pn : Int) == (cn : Int)) = false := by rw [beq_eq_false_iff_ne]; omega
          have d5 : (pn == cn) = false := by rw [beq_eq_false_iff_ne]; omega
          have hne : bl ≠ pb := fun e => hno2 ⟨by omega, fun _ => by omega, e⟩
          have q1 : ((bl : Int) == (pb : Int)) = false := by rw [beq_eq_false_iff_ne]; omega
          have q2 : ((bl : Int) != (pb : Int)) = true := by unfold bne; rw [q1]; rfl
          have q3 : (bl == pb) = false := by rw [beq_eq_false_iff_ne]; omega
          have q4 : (bl != pb) = true := by unfold bne; rw [q3]; rfl
          clear hne hno2 h2
          go_enter Tryz.func47, Tryz.ntmps47
          go_wp2
          refine wp_region_over (by kernel_rfl) (by kernel_rfl) ?_
          repeat (go_big_quiet_step ((fail)))
          refine wpQuiet_nil ?_
          intro _ hw'
          obtain ⟨nq, rfl⟩ := hw'
          go_wp2
          refine wp_region_over (by kernel_rfl) (by kernel_rfl) ?_
          repeat (go_big_quiet_step ((fail)))
          refine wpQuiet_nil ?_
          intro _ hw'
          obtain ⟨nq, rfl⟩ := hw'
          go_wp2
          refine wp_region_over (by kernel_rfl) (by kernel_rfl) ?_
          repeat (go_big_quiet_step ((go_at_call 50; exact quiet_over (HT2.out _ ovA))))
          refine wpQuiet_nil ?_
          intro _ hw'
          obtain ⟨nq, rfl⟩ := hw'
          go_wp2
          go_ret
          exact ⟨ovA, rfl⟩
set_option maxRecDepth 100000 in
set_option maxHeartbeats 2000000 in
theorem bsum_no {base : Nat} {w : World} {b n sz mb : Nat} {L : List Se} (h : BkAt base w b n sz mb L) (id : Nat) {pc pb pn : Nat} (hpc3 : pc < 4294967296) (hpb3 : pb < 4294967296) (hpn3 : pn < 4294967296) (hh : hasS (getS (bkOf L) id) ⟨pc, pb, pn⟩ = none) (hcl : (getS (bkOf L) id).cl.length ≤ 900) :
    Calls Tryz.prog 18 #[.pointer (some ⟨b, 0, none⟩), .int .u32 (id : Nat), .agg #[.int .u32 (pc : Nat), .int .u32 (pb : Nat), .int .u32 (pn : Nat)]] w (Ret w (.tuple #[.int .u64 0, .int .u16 122])) := by
  have HA := hid (fun W (hW : ∃ e, W = over w e) => bkAt_any (w := W) (by obtain ⟨e, rfl⟩ := hW; exact h.on e) id)
  obtain ⟨s, hs⟩ : ∃ s, getS (bkOf L) id = s := ⟨_, rfl⟩
  rw [hs] at hh hcl HA
  have HH := hid hh
  have HC := hid hcl
  clear h hh hcl hs
  go_enter Tryz.func18, Tryz.ntmps18
  go_wp2
  refine M2.wp_region_mix [2, 4] 6 (by kernel_rfl) (by kernel_rfl) (by decide) ?_
  simp only [M2.td]
  with_reducible refine M2.mixL_quiet 2 (by kernel_rfl) ?_
  simp only [M2.td]
  repeat (go_big_quiet_step (fail))
  with_reducible refine wpQuiet_nil ?_
  with_reducible refine M2.mixL_eff (by decide) ?_
  go_wp2_with ((go_at_call 46; (with_reducible refine (HA.out _ ovA).mono ?_); rintro _ _ ⟨x, rfl, ⟨e1, rfl⟩, hs, hxs⟩; (try simp only [over_drew] at hs); obtain ⟨g, cap, m, ho⟩ := hs.open_; rw [← hxs] at HH HC; have HP := hid (fun W (hW : ∃ e, W = over _ e) => part_no (w := W) (hs.ov hW) (ho.ov hW) (by rw [← ho.hc]; have := HC.out; omega) hpc3 hpb3 hpn3 HH.out); clear hs ho hxs))
  refine M2.MixQ.mk ovA ?_
  with_reducible refine M2.mixL_quiet 1 (by kernel_rfl) ?_
  simp only [M2.td]
  repeat (go_big_quiet_step (fail))
  with_reducible refine wpQuiet_nil ?_
  with_reducible refine M2.mixL_eff (by decide) ?_
  go_wp2_with ((go_at_call 47; (with_reducible refine (HP.out _ ovA).mono ?_); rintro _ _ ⟨⟨e2, rfl⟩, rfl⟩))
  refine M2.MixQ.mk ovA ?_
  with_reducible refine M2.mixL_quiet 1 (by kernel_rfl) ?_
  simp only [M2.td]
  repeat (go_big_quiet_step (fail))
  with_reducible refine wpQuiet_nil ?_
  with_reducible refine M2.mixL_nil ?_
  with_reducible refine M2.mixL_nil ?_
  go_wp2
  go_ret2
  exact ⟨ovA, rfl⟩
end
end Go.Proofs.YtnihngljmmbenaaGreatDoor
