import Derived.Test.YtnffcckhdedhpaaGreatDoorBru
import Derived.Test.YtnffcckhdedhpaaGreatDoorBrv
import Derived.Test.YtnffcckhdedhpaaGreatDoorHE
namespace Go.Proofs.YtnffcckhdedhpaaGreatDoor
set_option linter.unusedVariables false
set_option linter.unusedSimpArgs false
set_option maxRecDepth 100000
set_option maxHeartbeats 8000000
section
open Go.RowKit
attribute [local go_sem] odr cdr
theorem brCase_ok {w : World} {l0 : List Bool} {s : Sr} {sz : Nat} (hsz : sz ≤ 24) {f : Fi} {er : Nat} {cs : List Sm} (h : BrCase l0 s sz f er cs) : er = 61 ∧ cs = [] ∨ er = 0 ∧ ChkOk cs ∧ cs.length = f.ct ∧ f.pn < f.ct ∧ f.ct ≤ sz ∧ (s.some = true → ∀ h : 0 < cs.length, s.ahead < cs[0].t) ∧ ∃ lf, f.bs = pack lf ∧ f.N = (lf.length : Nat) ∧ bitsC En.zero cs = l0 ++ lf := by
 rcases h with ⟨rfl, rfl, _⟩ | ⟨lf, xs, e, h1, h2, hr, ⟨rfl, rfl, _⟩ | ⟨_, rfl, rfl, _⟩ | ⟨rfl, rfl, rfl, g1, g2, g3, g4⟩⟩
 · exact .inl ⟨rfl, rfl⟩
 · exact .inl ⟨rfl, rfl⟩
 · exact .inl ⟨rfl, rfl⟩
 · exact .inr ⟨rfl, ⟨by omega, hr.rd.wf, hr.rd.good⟩, g1, g2, g3, g4, lf, h1, h2, hr.whole⟩
def TakeB (s : Sr) (sz : Nat) (f : Fi) (er : Nat) (cs : List Sm) : Prop :=
 (f.fr ≠ s.fin ∧ f.fr ≠ ⟨s.cl.length, 0, 0⟩ ∧ er = 122 ∧ cs = []) ∨ (f.fr = s.fin ∧ BrCase (bitsC En.zero s.op) s sz f er cs) ∨ (f.fr ≠ s.fin ∧ f.fr = ⟨s.cl.length, 0, 0⟩ ∧ BrCase [] s sz f er cs)
theorem brought_any {base bx : Nat} {w : World} {b n sz mb : Nat} {L : List Se} (h : BkAt base w b n sz mb L) (hT : TabW w) (hn : L.length < n) (hn2 : n ≤ 64) (hsz : sz ≤ 24) {x : Se} (hs : SeAt bx w x) (hcl : x.s.cl.length ≤ 900) (f : Fi) (hf : FiOk w f) {er : Nat} {cs : List Sm} (hc : TakeB x.s sz f er cs) :
    Calls Tryz.prog 47 #[.pointer (some ⟨b, 0, none⟩), .pointer (some ⟨x.sp, 0, none⟩), f.v] w (BrPost w f.cl er cs) := by
  rcases hc with ⟨h1, h2, rfl, rfl⟩ | ⟨h1, hc⟩ | ⟨h1, h2, hc⟩
  · exact brought_122 h hn hn2 hs hcl f hf h1 h2
  · exact brought_u h hT hn hn2 hsz hs hcl f hf h1 hc
  · exact brought_v h hT hn hn2 hsz hs hcl f hf h1 h2 hc
theorem takeB_fin {s : Sr} {sz : Nat} (hsz : sz ≤ 24) {f : Fi} {er : Nat} {cs : List Sm} (h : TakeB s sz f er cs) : (er = 122 ∨ er = 61) ∧ cs = [] ∨ er = 0 ∧ ChkOk cs ∧ cs ≠ [] ∧ cs.length = f.ct ∧ f.ct ≤ sz ∧ (s.some = true → ∀ h : 0 < cs.length, s.ahead < cs[0].t) := by
 have key : ∀ l0, BrCase l0 s sz f er cs → (er = 122 ∨ er = 61) ∧ cs = [] ∨ er = 0 ∧ ChkOk cs ∧ cs ≠ [] ∧ cs.length = f.ct ∧ f.ct ≤ sz ∧ (s.some = true → ∀ h : 0 < cs.length, s.ahead < cs[0].t) := fun l0 hb => by
  rcases brCase_ok (w := default) hsz hb with ⟨h1, h2⟩ | ⟨h1, h2, h3, h4, h5, h6, _⟩
  · exact .inl ⟨.inr h1, h2⟩
  · exact .inr ⟨h1, h2, by intro e; rw [e] at h3; simp at h3; omega, h3, h5, h6⟩
 rcases h with ⟨_, _, h3, h4⟩ | ⟨_, hb⟩ | ⟨_, _, hb⟩
 · exact .inl ⟨.inl h3, h4⟩
 · exact key _ hb
 · exact key _ hb
end
section
open Go.RowKit
attribute [local go_sem] odr cdr
def updS (S : List (Nat × Sr)) (id : Nat) (s : Sr) : List (Nat × Sr) :=
 match S.findIdx? (fun y => y.1 == id) with
 | some i => S.set i (id, s)
 | none => S ++ [(id, s)]
def TakePost (w : World) (base b n sz mb : Nat) (L : List Se) (S' : List (Nat × Sr)) (er : Nat) (okk : Prop) (en : Ending) (w' : World) : Prop :=
 if er = 0 then en = .returned (.int .u16 0) ∧ Chg (bkF mb L) w w' ∧ (okk → BkPut w base b n sz mb L S' en w') else Ret w (.int .u16 (er : Nat)) en w'
theorem PrtOk.mono {base base' : Nat} {w : World} {p : Prt} (h : PrtOk base' w p) (hb : base ≤ base') : PrtOk base w p := ⟨h.b, h.e, fun k hk => ⟨Nat.le_trans hb (h.lo k hk).1, (h.lo k hk).2⟩⟩
theorem with_op {s : Sr} {cs : List Sm} {cl : Bool} {sz : Nat} (hsz : 1 ≤ sz) (h : cl = true ∨ cs.length < sz) : (s.with_ cs cl).op.length < sz := by
 unfold Sr.with_; cases cl with
 | true => simp; omega
 | false =>
  rcases h with h | h
  · cases h
  · simpa using h
theorem take_old {base : Nat} {w : World} {b n sz mb : Nat} {L : List Se} (h : BkAt base w b n sz mb L) (hbw : base ≤ w.heap.size) (hT : TabW w) (hn : L.length < n) (hn2 : n ≤ 64) (hsz : 1 ≤ sz ∧ sz ≤ 24) (f : Fi) (hf : FiOk w f) {i : Nat} (hi : i < L.length) (hid_ : L[i].id = f.id) (hcl : L[i].s.cl.length ≤ 900) {er : Nat} {cs : List Sm} (hc : TakeB L[i].s sz f er cs) :
    Calls Tryz.prog 19 #[.pointer (some ⟨b, 0, none⟩), f.v] w (TakePost w base b n sz mb L ((bkOf L).set i (f.id, L[i].s.with_ cs f.cl)) er (f.cl = true ∨ cs.length < sz)) := by
  have HAt := hid (fun W (hW : ∃ e, W = over w e) => at_old (w := W) (bk_ov h hW) hi hid_); have hs := h.ser L[i] (List.getElem_mem hi); have HBr := hid (fun W (hW : ∃ e, W = over w e) => brought_any (bk_ov h hW) (TabW.ov hT hW) hn hn2 hsz.2 (hs.ov hW) hcl f ⟨hf.id, hf.pc, hf.pb, hf.pn, hf.ct, Sl.ov hf.s hW, hf.lt, hf.len, hf.n⟩ hc); have HBk := hid h; obtain ⟨x, hxi⟩ : ∃ x, L[i] = x := ⟨_, rfl⟩; rw [hxi] at hs HAt HBr hcl hid_ hc ⊢; have HXI := hid hxi; have HS := hid hs; obtain ⟨g, cap, c, ho⟩ := hs.open_; have HO := hid ho; obtain ⟨sp, hsp⟩ : ∃ sp, x.sp = sp := ⟨_, rfl⟩; have HSP := hid hsp; rw [hsp] at HAt HBr; have hfin := takeB_fin hsz.2 hc; have HTc := hid hc; obtain ⟨kd, ep, id, pc, pb, pn, ct, cl, sm, fa, fcap, bs, N⟩ := f; simp only at *; clear h hs hxi ho hsp hT hc; have hbw1 : base ≤ w.heap.size := hbw; rcases hfin with ⟨her, rfl⟩ | ⟨rfl, hck, hcne, hclen, hct, _⟩
  · have hn0 : er ≠ 0 := by omega
    have k1 : ((er : Int) == 0) = false := beq_eq_false_iff_ne.2 (by omega); have k2 : (er == 0) = false := beq_eq_false_iff_ne.2 hn0; have HBr' := hid (fun W (hW : ∃ e, W = over w e) => (HBr.out W hW).mono (fun en w' hp => by
     have hp2 := hp.2; rw [if_neg hn0] at hp2; exact (⟨hp2, hp.1⟩ : en = .returned (.tuple #[partZ, .int .u16 (er : Nat)]) ∧ ∃ e, w' = over W e)))
    clear HBr
    go_enter Tryz.func19, Tryz.ntmps19
    go_wp2_with (first
      | (go_at_call 46; (with_reducible refine (HAt.out _ ovA).mono ?_); rintro _ _ ⟨⟨e1, rfl⟩, rfl⟩)
      | (go_at_call 47; (with_reducible refine (HBr'.out _ ovA).mono ?_); rintro _ _ ⟨rfl, ⟨e2, rfl⟩⟩))
    go_ret
    unfold TakePost; rw [if_neg hn0]; exact ⟨ovA, rfl⟩
  · have HCok := hid hck; have HCne := hid hcne; clear hck hcne hclen; have P1 : Hid True := hid trivial
    go_enter Tryz.func19, Tryz.ntmps19
    go_wp2_with (first
      | (go_at_call 46; (with_reducible refine (HAt.out _ ovA).mono ?_); rintro _ _ ⟨⟨e1, rfl⟩, rfl⟩)
      | (go_at_call 47
         (with_reducible refine (HBr.out _ ovA).mono ?_)
         rintro en w3 ⟨ho3, hp⟩; have O3 : Hid (∃ e, w3 = over w e) := hid (by obtain ⟨e, he⟩ := ho3; rw [he]; exact ovA); have PF1 : Hid (Blk w3 w.heap.size [.int .u8 kd, .int .u32 ep, .int .u32 (id : Nat), .int .u32 (pc : Nat), .int .u32 (pb : Nat), .int .u32 (pn : Nat), .int .u32 (ct : Nat), .bool cl, .int .u64 sm, .slice fa bs.length fcap, .int .i64 N] 51) := hid (by obtain ⟨e, he⟩ := ho3; rw [he]; repeat (first | with_reducible exact P1.out | exact Blk.new' (by simp; done) | with_reducible refine Blk.on ?_ _ | with_reducible refine Blk.alloc ?_ _ | with_reducible refine Blk.drew ?_)); rw [if_pos rfl] at hp; obtain ⟨⟨a4, c4, L4, a6, c6, us, ⟨m0, m1, m2, ⟨m3, m4, m5, m6⟩⟩, cb⟩, rfl, hpt, his⟩ := hp; obtain rfl : cb = cl := his.cl; have hpt2 : PrtOk (w).heap.size w3 ⟨a4, c4, L4, a6, c6, us, ⟨m0, m1, m2, ⟨m3, m4, m5, m6⟩⟩, cb⟩ := hpt.mono (by simp <;> omega); have HPT3 := hid hpt2; have HIs := hid his; clear hpt his ho3 hpt2
         skip)
      | (go_at_call 48
         refine gen_c ?_; intro W4 hW4; have O4 : Hid (∃ e, W4 = over w e) := hid (by rw [hW4]; exact (ovB O3.out)); have C34 : Hid (Chg [] w3 W4) := hid (by rw [hW4]; exact (by exact chA)); clear hW4; have hw14 : (w).heap.size ≤ W4.heap.size := by obtain ⟨e, he⟩ := O4.out; rw [he]; simp
         have hpt4 : PrtOk (w).heap.size W4 ⟨a4, c4, L4, a6, c6, us, ⟨m0, m1, m2, ⟨m3, m4, m5, m6⟩⟩, cb⟩ := PrtOk.chg (HPT3.out) C34.out (by simp); have HPf : Hid (∀ k ∈ blk? a4 ++ blk? a6, (w).heap.size ≤ k) := hid (fun k hk => (hpt4.lo k hk).1); have HPt := hid (hpt4.mono hbw1); have HS4 := hid (HS.out.ov O4.out); have ho4 := HO.out.ov O4.out; have HH4 := hid (bk_ov HBk.out O4.out); have hbw4 : base ≤ W4.heap.size := Nat.le_trans hbw1 hw14; have hGr := grow_any HS4.out ho4 (by have := HO.out.hc; omega) hbw4 ⟨a4, c4, L4, a6, c6, us, ⟨m0, m1, m2, ⟨m3, m4, m5, m6⟩⟩, cb⟩; rw [HSP.out] at hGr; have HW4 := hid hw14; have HBW := hid hbw4; have HC : Hid (x.s.cl.length = c) := hid HO.out.hc
         (with_reducible refine hGr.mono ?_)
         intro en W5 hgr; obtain ⟨rfl, v', ps', hse, hch, hfs, hds⟩ := SeAt.grow HS4.out HBW.out HC.out hgr HPt.out (fun k hk hm => by have := HPf.out k hk; have := HS.out.flt k hm; omega) HIs.out HCok.out HCne.out; have HSE := hid hse; have HCH := hid hch; have HFS := hid hfs; have HDS := hid hds; have hdx := HH4.out.hd L[i] (List.getElem_mem hi); rw [HXI.out] at hdx; have BB5 : Hid (Blk W5 b [.int .i64 (n : Nat), .int .i64 (sz : Nat), .map (some mb)] 119) := hid (Blk.chg HH4.out.blk hch hdx.2.1); have M5 : Hid (MapAt W5 mb (bkMap L)) := hid (MapAt.chg HH4.out.map hch hdx.1); have hget := HH4.out.get hi; rw [HXI.out, hid_, HSP.out] at hget; have HGet := hid hget; clear hdx hget; have P35 : Hid (Blk W5 w.heap.size [.int .u8 kd, .int .u32 ep, .int .u32 (id : Nat), .int .u32 (pc : Nat), .int .u32 (pb : Nat), .int .u32 (pn : Nat), .int .u32 (ct : Nat), .bool cb, .int .u64 sm, .slice fa bs.length fcap, .int .i64 N] 51) := hid (Blk.chg (Blk.chg PF1.out C34.out (by simp)) hch (fun hm => by have := (HS.out.flt _ hm).2; omega)); clear hgr hse hch hfs hds hpt4 ho4 hGr; have b2 := BB5.out.cell 2 rfl; have lb := BB5.out.lt; have p2 := P35.out.cell 2 rfl; have lp := P35.out.lt
         skip))
    refine M2.wrm [7] 7 (by kernel_rfl) (by kernel_rfl) (by decide) ?_; simp only [M2.td]; with_reducible refine M2.mlq 7 (by kernel_rfl) ?_
    simp only [M2.td]; repeat (go_big_quiet_step (fail))
    with_reducible refine wpQuiet_nil ?_
    with_reducible refine M2.mln ?_
    with_reducible refine M2.mixL_eff (by decide) ?_
    go_wp2_with ((at_mapUpdate; refine wpList_update_at rfl (.tmp 27) (.tmp 29) (.tmp 30) 117 rfl mb id (.pointer (some ⟨sp, 0, none⟩)) (bkMap L) rfl rfl rfl (map_same (k := 31) (e := 105) (by kernel_rfl) (by kernel_rfl) ((M5.out.chg (Chg.refl [] _).drew (by simp))) id _ HGet.out) ?_; intro mt hm6; have HM6 := hid hm6; clear hm6))
    refine M2.MixQ.mk trivial ?_; with_reducible refine M2.mln ?_
    go_wp2; go_ret
    have hm7 : MapAt (chg [mb] W5 mt) mb (bkMap L) := by simpa only [cdr] using HM6.out
    have hxm : ∀ k ∈ x.fs, k ∈ bkF mb L := fun k hk => List.mem_cons_of_mem _ (List.mem_flatMap.2 ⟨x, by rw [← HXI.out]; exact List.getElem_mem hi, hk⟩); have hch1 : Chg (bkF mb L) w (chg [mb] W5 mt) := Chg.then (Chg.trans (Chg.of_ov O4.out _) (Chg.mono HCH.out (fun k hk => .inl (hxm k hk)))) (chg_chg _ _ _) (fun k hk => .inl (by simp at hk; simp [hk, bkF])); unfold TakePost; rw [if_pos rfl]; refine ⟨rfl, hch1, fun hok => ?_⟩; have hs7 : SeAt base (chg [mb] W5 mt) ⟨x.id, x.sp, v', ps', x.s.with_ cs cb⟩ := by
     have hdx := HH4.out.hd L[i] (List.getElem_mem hi); rw [HXI.out] at hdx; have hm4 := HH4.out.map.lt; refine SeAt.chg HSE.out (chg_chg _ _ _) (fun k hk hm => ?_) (fun k hk hm => ?_)
     · simp at hm; subst hm; rcases HFS.out _ hk with h | h
       · exact hdx.1 h
       · omega
     · simp at hm; subst hm; rcases HDS.out _ hk with h | h
       · exact hdx.2.2.1 h
       · have h1 := HPf.out _ h; have h2 := HBk.out.map.lt; omega
    refine BkPut.set_ hi HXI.out hid_ (ovs w) HBk.out (x' := ⟨x.id, x.sp, v', ps', x.s.with_ cs cb⟩) rfl rfl rfl hs7 (Chg.then (Chg.trans (Chg.of_ov O4.out _) (Chg.mono HCH.out (fun k hk => .inl (List.mem_cons_of_mem _ hk)))) (chg_chg _ _ _) (fun k hk => .inl (by simp at hk; simp [hk]))) hm7 (fun k hk => (HFS.out k hk).imp (fun h => h) (fun h => Nat.le_trans HW4.out h)) ?_ ?_
    · intro k hk; rcases HDS.out k hk with h | h
      · exact .inl h
      · exact .inr (HPf.out k h)
    · exact with_op hsz.1 hok
theorem take_new {base : Nat} {w : World} {b n sz mb : Nat} {L : List Se} (h : BkAt base w b n sz mb L) (hbw : base ≤ w.heap.size) (hT : TabW w) (hn : L.length < n) (hn2 : n ≤ 64) (hsz : 1 ≤ sz ∧ sz ≤ 24) (f : Fi) (hf : FiOk w f) (hi : ∀ x ∈ L, x.id ≠ f.id) {er : Nat} {cs : List Sm} (hc : TakeB Sr.zero sz f er cs) :
    Calls Tryz.prog 19 #[.pointer (some ⟨b, 0, none⟩), f.v] w (TakePost w base b n sz mb L (bkOf L ++ [(f.id, Sr.zero.with_ cs f.cl)]) er (f.cl = true ∨ cs.length < sz)) := by
  have HAt := hid (fun W (hW : ∃ e, W = over w e) => at_new (w := W) (bk_ov h hW) hi); have HBk0 := hid h; have HT0 := hid hT; have HF0 := hid hf; have hfin := takeB_fin hsz.2 hc; have HTc := hid hc; have hid32 := hf.id; obtain ⟨kd, ep, id, pc, pb, pn, ct, cl, sm, fa, fcap, bs, N⟩ := f; simp only at *; clear h hT hc hf; rcases hfin with ⟨her, rfl⟩ | ⟨rfl, hck, hcne, hclen, hct, _⟩
  · have hn0 : er ≠ 0 := by omega
    have k1 : ((er : Int) == 0) = false := beq_eq_false_iff_ne.2 (by omega); have k2 : (er == 0) = false := beq_eq_false_iff_ne.2 hn0
    go_enter Tryz.func19, Tryz.ntmps19
    go_wp2_with (first
      | (go_at_call 46
         (with_reducible refine (HAt.out _ ovA).mono ?_)
         rintro _ w1 ⟨x, rfl, ⟨e2, hw⟩, hs0, hxs, hxid⟩; have O1 : Hid (∃ e, w1 = over w e) := hid (by rw [hw]; exact ovA); have P1 : Hid (Blk w1 w.heap.size [.int .u8 kd, .int .u32 ep, .int .u32 (id : Nat), .int .u32 (pc : Nat), .int .u32 (pb : Nat), .int .u32 (pn : Nat), .int .u32 (ct : Nat), .bool cl, .int .u64 sm, .slice fa bs.length fcap, .int .i64 N] 51) := hid (by rw [hw]; repeat (first | exact Blk.new' (by simp; done) | with_reducible refine Blk.on ?_ _ | with_reducible refine Blk.alloc ?_ _ | with_reducible refine Blk.drew ?_)); have HBr := hid (fun W (hW : ∃ e, W = over w1 e) => brought_any (bk_ov HBk0.out (ov_tr O1.out hW)) (TabW.ov HT0.out (ov_tr O1.out hW)) hn hn2 hsz.2 (hs0.ov hW) (by rw [hxs]; simp [Sr.zero]) ⟨kd, ep, id, pc, pb, pn, ct, cl, sm, fa, fcap, bs, N⟩ ⟨HF0.out.id, HF0.out.pc, HF0.out.pb, HF0.out.pn, HF0.out.ct, Sl.ov HF0.out.s (ov_tr O1.out hW), HF0.out.lt, HF0.out.len, HF0.out.n⟩ (by rw [hxs]; exact HTc.out)); have HBr' := hid (fun W (hW : ∃ e, W = over w1 e) => (HBr.out W hW).mono (fun en w' hp => by
          have hp2 := hp.2; rw [if_neg hn0] at hp2; exact (⟨hp2, hp.1⟩ : en = .returned (.tuple #[partZ, .int .u16 (er : Nat)]) ∧ ∃ e, w' = over W e)))
         have p0 := P1.out.cell 0 rfl; have p1 := P1.out.cell 1 rfl; have p2 := P1.out.cell 2 rfl; have p3 := P1.out.cell 3 rfl; have p4 := P1.out.cell 4 rfl; have p5 := P1.out.cell 5 rfl; have p6 := P1.out.cell 6 rfl; have p7 := P1.out.cell 7 rfl; have p8 := P1.out.cell 8 rfl; have p9 := P1.out.cell 9 rfl; have p10 := P1.out.cell 10 rfl; have lp := P1.out.lt; clear hw hs0 hxs hxid HBr)
      | (go_at_call 47; (with_reducible refine (HBr'.out _ ovA).mono ?_); rintro _ _ ⟨rfl, ⟨e3, rfl⟩⟩))
    go_ret
    unfold TakePost; rw [if_neg hn0]; exact ⟨(ovB O1.out), rfl⟩
  · have HCok := hid hck; have HCne := hid hcne; clear hck hcne hclen
    go_enter Tryz.func19, Tryz.ntmps19
    go_wp2_with (first
      | (go_at_call 46
         (with_reducible refine (HAt.out _ ovA).mono ?_)
         rintro _ w1 ⟨x, rfl, ⟨e2, hw⟩, hs0, hxs, hxid⟩; have O1 : Hid (∃ e, w1 = over w e) := hid (by rw [hw]; exact ovA); have P1 : Hid (Blk w1 w.heap.size [.int .u8 kd, .int .u32 ep, .int .u32 (id : Nat), .int .u32 (pc : Nat), .int .u32 (pb : Nat), .int .u32 (pn : Nat), .int .u32 (ct : Nat), .bool cl, .int .u64 sm, .slice fa bs.length fcap, .int .i64 N] 51) := hid (by rw [hw]; repeat (first | exact Blk.new' (by simp; done) | with_reducible refine Blk.on ?_ _ | with_reducible refine Blk.alloc ?_ _ | with_reducible refine Blk.drew ?_)); have HBr := hid (fun W (hW : ∃ e, W = over w1 e) => brought_any (bk_ov HBk0.out (ov_tr O1.out hW)) (TabW.ov HT0.out (ov_tr O1.out hW)) hn hn2 hsz.2 (hs0.ov hW) (by rw [hxs]; simp [Sr.zero]) ⟨kd, ep, id, pc, pb, pn, ct, cl, sm, fa, fcap, bs, N⟩ ⟨HF0.out.id, HF0.out.pc, HF0.out.pb, HF0.out.pn, HF0.out.ct, Sl.ov HF0.out.s (ov_tr O1.out hW), HF0.out.lt, HF0.out.len, HF0.out.n⟩ (by rw [hxs]; exact HTc.out)); have hge : w.heap.size + 1 ≤ (w.alloc (.cells #[.int .u8 kd, .int .u32 ep, .int .u32 (id : Nat), .int .u32 (pc : Nat), .int .u32 (pb : Nat), .int .u32 (pn : Nat), .int .u32 (ct : Nat), .bool cl, .int .u64 sm, .slice fa bs.length fcap, .int .i64 N] 51)).heap.size := by simp
         have HXF : Hid (∀ k ∈ x.fs, w.heap.size + 1 ≤ k) := hid (fun k hk => Nat.le_trans hge (hs0.flt k hk).1); have HXD : Hid (∀ k ∈ x.ds, w.heap.size + 1 ≤ k) := hid (fun k hk => Nat.le_trans hge (hs0.dlt k hk).1); have hs : SeAt base w1 x := hs0.mono (Nat.le_trans hbw (Nat.le_trans (Nat.le_succ _) hge)); have HW0 : Hid (w.heap.size + 1 ≤ w1.heap.size) := hid (by rw [hw]; simp); have hbw1 : base ≤ w1.heap.size := by have := HW0.out; omega
         have HBk := hid (bk_ov HBk0.out O1.out); have HS := hid hs; obtain ⟨g, cap, c, ho⟩ := hs.open_; have HO := hid ho; obtain ⟨sp, hsp⟩ : ∃ sp, x.sp = sp := ⟨_, rfl⟩; have HSP := hid hsp; rw [hsp] at HBr ⊢; have HXS := hid hxs; have HXID := hid hxid; have hcc : c = 0 := by have := ho.hc; rw [hxs] at this; simpa [Sr.zero] using this.symm
         have p0 := P1.out.cell 0 rfl; have p1 := P1.out.cell 1 rfl; have p2 := P1.out.cell 2 rfl; have p3 := P1.out.cell 3 rfl; have p4 := P1.out.cell 4 rfl; have p5 := P1.out.cell 5 rfl; have p6 := P1.out.cell 6 rfl; have p7 := P1.out.cell 7 rfl; have p8 := P1.out.cell 8 rfl; have p9 := P1.out.cell 9 rfl; have p10 := P1.out.cell 10 rfl; have lp := P1.out.lt; clear hw hs0 hxs hxid hs ho hsp hge)
      | (go_at_call 47
         (with_reducible refine (HBr.out _ ovA).mono ?_)
         rintro en w3 ⟨ho3, hp⟩; have O3 : Hid (∃ e, w3 = over w1 e) := hid (by obtain ⟨e, he⟩ := ho3; rw [he]; exact ovA); have PF1 : Hid (Blk w3 w.heap.size [.int .u8 kd, .int .u32 ep, .int .u32 (id : Nat), .int .u32 (pc : Nat), .int .u32 (pb : Nat), .int .u32 (pn : Nat), .int .u32 (ct : Nat), .bool cl, .int .u64 sm, .slice fa bs.length fcap, .int .i64 N] 51) := hid (by obtain ⟨e, he⟩ := ho3; rw [he]; repeat (first | with_reducible exact P1.out | exact Blk.new' (by simp; done) | with_reducible refine Blk.on ?_ _ | with_reducible refine Blk.alloc ?_ _ | with_reducible refine Blk.drew ?_)); rw [if_pos rfl] at hp; obtain ⟨⟨a4, c4, L4, a6, c6, us, ⟨m0, m1, m2, ⟨m3, m4, m5, m6⟩⟩, cb⟩, rfl, hpt, his⟩ := hp; obtain rfl : cb = cl := his.cl; have hpt2 : PrtOk (w1).heap.size w3 ⟨a4, c4, L4, a6, c6, us, ⟨m0, m1, m2, ⟨m3, m4, m5, m6⟩⟩, cb⟩ := hpt.mono (by simp <;> omega); have HPT3 := hid hpt2; have HIs := hid his; clear hpt his ho3 hpt2; clear p0 p1 p2 p3 p4 p5 p6 p7 p8 p9 p10 lp)
      | (go_at_call 48
         refine gen_c ?_; intro W4 hW4; have O4 : Hid (∃ e, W4 = over w1 e) := hid (by rw [hW4]; exact (ovB O3.out)); have C34 : Hid (Chg [] w3 W4) := hid (by rw [hW4]; exact (by exact chA)); clear hW4; have hw14 : (w1).heap.size ≤ W4.heap.size := by obtain ⟨e, he⟩ := O4.out; rw [he]; simp
         have hpt4 : PrtOk (w1).heap.size W4 ⟨a4, c4, L4, a6, c6, us, ⟨m0, m1, m2, ⟨m3, m4, m5, m6⟩⟩, cb⟩ := PrtOk.chg (HPT3.out) C34.out (by simp); have HPf : Hid (∀ k ∈ blk? a4 ++ blk? a6, (w1).heap.size ≤ k) := hid (fun k hk => (hpt4.lo k hk).1); have HPt := hid (hpt4.mono hbw1); have HS4 := hid (HS.out.ov O4.out); have ho4 := HO.out.ov O4.out; have HH4 := hid (bk_ov HBk.out O4.out); have hbw4 : base ≤ W4.heap.size := Nat.le_trans hbw1 hw14; have hGr := grow_any HS4.out ho4 (by have := HO.out.hc; omega) hbw4 ⟨a4, c4, L4, a6, c6, us, ⟨m0, m1, m2, ⟨m3, m4, m5, m6⟩⟩, cb⟩; rw [HSP.out] at hGr; have HW4 := hid hw14; have HBW := hid hbw4; have HC : Hid (x.s.cl.length = c) := hid HO.out.hc
         (with_reducible refine hGr.mono ?_)
         intro en W5 hgr; obtain ⟨rfl, v', ps', hse, hch, hfs, hds⟩ := SeAt.grow HS4.out HBW.out HC.out hgr HPt.out (fun k hk hm => by have := HPf.out k hk; have := HS.out.flt k hm; omega) HIs.out HCok.out HCne.out; have HSE := hid hse; have HCH := hid hch; have HFS := hid hfs; have HDS := hid hds; have hb0 := HBk.out.blk.lt; have hm0 := HBk.out.map.lt; have BB5 : Hid (Blk W5 b [.int .i64 (n : Nat), .int .i64 (sz : Nat), .map (some mb)] 119) := hid (Blk.chg HH4.out.blk hch (fun hk => by have := HXF.out _ hk; have := HBk0.out.blk.lt; omega)); have M5 : Hid (MapAt W5 mb (bkMap L)) := hid (MapAt.chg HH4.out.map hch (fun hk => by have := HXF.out _ hk; have := HBk0.out.map.lt; omega)); have HGet := hid (HH4.out.none_ hi); clear hb0 hm0; have P35 : Hid (Blk W5 w.heap.size [.int .u8 kd, .int .u32 ep, .int .u32 (id : Nat), .int .u32 (pc : Nat), .int .u32 (pb : Nat), .int .u32 (pn : Nat), .int .u32 (ct : Nat), .bool cb, .int .u64 sm, .slice fa bs.length fcap, .int .i64 N] 51) := hid (Blk.chg (Blk.chg PF1.out C34.out (by simp)) hch (fun hm => by have := HXF.out _ hm; omega)); clear hgr hse hch hfs hds hpt4 ho4 hGr; have b2 := BB5.out.cell 2 rfl; have lb := BB5.out.lt; have p2 := P35.out.cell 2 rfl; have lp := P35.out.lt
         skip))
    refine M2.wrm [7] 7 (by kernel_rfl) (by kernel_rfl) (by decide) ?_; simp only [M2.td]; with_reducible refine M2.mlq 7 (by kernel_rfl) ?_
    simp only [M2.td]; repeat (go_big_quiet_step (fail))
    with_reducible refine wpQuiet_nil ?_
    with_reducible refine M2.mln ?_
    with_reducible refine M2.mixL_eff (by decide) ?_
    go_wp2_with ((at_mapUpdate; refine wpList_update_at rfl (.tmp 27) (.tmp 29) (.tmp 30) 117 rfl mb id (.pointer (some ⟨sp, 0, none⟩)) (bkMap L ++ [(id, .pointer (some ⟨sp, 0, none⟩))]) rfl rfl rfl (map_push (k := 31) (e := 105) (by kernel_rfl) (by kernel_rfl) ((M5.out.chg (Chg.refl [] _).drew (by simp))) id _ HGet.out) ?_; intro mt hm6; have HM6 := hid hm6; clear hm6))
    refine M2.MixQ.mk trivial ?_; with_reducible refine M2.mln ?_
    go_wp2; go_ret
    have hm7 : MapAt (chg [mb] W5 mt) mb (bkMap L ++ [(id, .pointer (some ⟨sp, 0, none⟩))]) := by simpa only [cdr] using HM6.out
    have hm0 := HBk0.out.map.lt; have hw0 := HW0.out; have hdsn : ∀ k ∈ (⟨x.id, x.sp, v', ps', x.s.with_ cs cb⟩ : Se).ds, w.heap.size ≤ k := by
     intro k hk; rcases HDS.out k hk with h | h
     · have := HXD.out k h; omega
     · have := HPf.out k h; omega
    have hfsn : ∀ k ∈ (⟨x.id, x.sp, v', ps', x.s.with_ cs cb⟩ : Se).fs, w.heap.size ≤ k := by
     intro k hk; rcases HFS.out k hk with h | h
     · have := HXF.out k h; omega
     · have := HW4.out; omega
    have hs7 : SeAt base (chg [mb] W5 mt) ⟨x.id, x.sp, v', ps', x.s.with_ cs cb⟩ := SeAt.chg HSE.out (chg_chg _ _ _) (fun k hk hm => by simp at hm; subst hm; have := hfsn _ hk; omega) (fun k hk hm => by simp at hm; subst hm; have := hdsn _ hk; omega); have hc6 : Chg [mb] w (chg [mb] W5 mt) := Chg.then (Chg.then (Chg.trans (Chg.of_ov O1.out [mb]) (Chg.of_ov O4.out [mb])) HCH.out (fun k hk => .inr (by have := HXF.out k hk; omega))) (chg_chg _ _ _) (fun k hk => .inl hk); unfold TakePost; rw [if_pos rfl]; refine ⟨rfl, Chg.mono hc6 (fun k hk => .inl (by simp at hk; simp [bkF, hk])), fun hok => ?_⟩; have hsz0 : x.s = Sr.zero := HXS.out; refine BkPut.push_ HBk0.out hbw hi hid32 (x' := ⟨x.id, x.sp, v', ps', x.s.with_ cs cb⟩) HXID.out ?_ hs7 hc6 (by rw [HSP.out]; exact hm7) hfsn hdsn ?_
    · rw [← hsz0]
    · exact with_op hsz.1 hok
end
end Go.Proofs.YtnffcckhdedhpaaGreatDoor
