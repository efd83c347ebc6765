import Derived.Test.YtoolooffpphmdaaGreatDoorNC
import Derived.Test.YtoolooffpphmdaaGreatDoorLH
import Derived.Test.YtoolooffpphmdaaGreatDoorNA
import Derived.Test.YtoolooffpphmdaaGreatDoorND
import Derived.Test.YtoolooffpphmdaaGreatDoorKD
import Derived.Test.YtoolooffpphmdaaGreatDoorKE
import Derived.Deep.Cut
namespace Go.Proofs.YtoolooffpphmdaaGreatDoor
set_option linter.unusedVariables false
set_option linter.unusedSimpArgs false
set_option maxRecDepth 100000
set_option maxHeartbeats 16000000
section
open Go.RowKit
attribute [local go_sem] odr cdr
theorem frs_cnt {s : Sr} (hok : SrOk s) (id : Nat) : (s.frs id (s.cl.length + 1)).map Fr.count = s.full.map List.length := by
 rw [frs_all hok];unfold Sr.full;rw [List.map_append,List.map_append,List.map_map]
 congr 1
 · apply List.ext_getElem
   · simp
   · intro i h1 h2;simp at h1 h2;simp [chF,h2]
 · split <;> simp [chF]
theorem cnt_at {fs : List Fr} {cs : List (List Sm)} {l : List Fx} (h : fs.map Fr.count = cs.map List.length) (hm : l.map Fx.f = fs) {k : Nat} (hk : k < l.length) : ∃ c,cs[k]? = some c ∧ l[k].f.count = c.length ∧ cs.length = l.length := by
 have hl : cs.length = l.length := by
  have h1 := congrArg List.length h;have h2 := congrArg List.length hm;simp at h1 h2;omega
 have hc : k < cs.length := by omega
 refine ⟨cs[k],List.getElem?_eq_getElem hc,?_,hl⟩;have h3 := congrArg (fun z => z[k]?) h;rw [← hm] at h3;simp [hc,hk] at h3;exact h3
theorem flat_at' {cs : List (List Sm)} {al : List Sm} (h : cs.flatten = al) {k : Nat} {c : List Sm} (hc : cs[k]? = some c) {j : Nat} (hj : j < c.length) : ∃ h2 : (cs.take k).flatten.length + j < al.length,al[(cs.take k).flatten.length + j] = c[j] := by
 obtain ⟨hk,rfl⟩ := List.getElem?_eq_some_iff.1 hc;have e : al = (cs.take k).flatten ++ (cs[k] ++ (cs.drop (k + 1)).flatten) := by
  rw [← h]
  conv => lhs;rw [← List.take_append_drop k cs,List.flatten_append,List.drop_eq_getElem_cons hk,List.flatten_cons]
 subst e;refine ⟨by simp only [List.length_append];omega,?_⟩;rw [List.getElem_append_right (by omega)];simp only [Nat.add_sub_cancel_left];rw [List.getElem_append_left hj]
def RSpsPost (w : World) (cs : List (List Sm)) (en : Ending) (w' : World) : Prop := (∃ e,w' = over w e) ∧ ∃ v xs,en = .returned v ∧ OwnS w.heap.size w' v xs ∧ xs = spsL cs
theorem rspans_any {base : Nat} {w : World} {p sz : Nat} {v : Value} {rs : List Rr} {R : List (Nat × Sr)} (h : RbAt base w p sz v rs R) (hT : TabW w) (id : Nat) (hlen2 : rs.length ≤ 1000000) {s : Sr} (hs0 : getS R id = s) (hok : SrOk s) (hcl : s.cl.length ≤ 900) (hall : s.all.length ≤ 900) (hr : RiseL s.all) :
    Calls Tryz.prog 18 #[.pointer (some ⟨p,0,none⟩),.int .u32 (id : Nat)] w (RSpsPost w s.full) := by
  have HS := hid (fun W (hW : ∃ e,W = over w e) => rsamples_any (RbAt.ov h hW) id hlen2 hs0 (by omega) (by omega));have HC := hid (fun W (hW : ∃ e,W = over w e) => rchs_any (RbAt.ov h hW) (TabW.ov hT hW) id hlen2 hs0 hok hcl);have hfl := frs_len s id (s.cl.length + 1);obtain ⟨fs,hfs⟩ : ∃ fs,s.frs id (s.cl.length + 1) = fs := ⟨_,rfl⟩;have hcnt := frs_cnt hok id;rw [hfs] at HC hcnt hfl;obtain ⟨al,hal⟩ : ∃ l,s.all = l := ⟨_,rfl⟩;have hca := full_all s;rw [hal] at hr hca HS hall;have HOk := hid (full_ok hok);obtain ⟨cs,hcs⟩ : ∃ cs,s.full = cs := ⟨_,rfl⟩;rw [hcs] at HOk hcnt hca ⊢;have HF := hid hcnt;have HR := hid hr;have HCA := hid hca;clear h hs0 hT hok hfs hcnt hal hr hca hcs
  go_enter Tryz.func18,Tryz.ntmps18
  go_wp2_with (first
    | (go_at_call 38
       (with_reducible refine (HS.out _ ovA).mono ?_)
       rintro _ w0 ⟨⟨e0,hw0⟩,v0,rfl,o0⟩;have O0 : Hid (∃ e,w0 = over w e) := hid (by rw [hw0];exact ovA);obtain ⟨a0,c0,rfl,s0⟩ := Own.slice Sm.cs_len o0;have S0 := hid s0;clear hw0 o0 s0)
    | (go_at_call 49
       (with_reducible refine (HC.out _ (ovB O0.out)).mono ?_)
       rintro _ w1 ⟨⟨e1,hw1⟩,v1,l,rfl,hm1,hf1⟩;have O01 : Hid (∃ e,w1 = over w0 e) := hid (by rw [hw1];exact ovA);have O1 : Hid (∃ e,w1 = over w e) := hid (over_trans O0.out O01.out);obtain ⟨a1,c1,rfl,s1⟩ := Own.slice Fx.cs_len hf1.row;have SA := hid (Sl.ov S0.out O01.out);have HM := hid hm1;have S1 := hid s1;have HLN : Hid (l.length = fs.length) := hid (by rw [← hm1];simp)
       have hll : l.length ≤ 1000 := by have : l.length = fs.length := by rw [← hm1];simp
                                        omega
       clear hw1 hm1 hf1 s1))
  go_loopw [5,8,9,10,11,12] (fun v t i _ _ _ wr => ∃ (k : Nat) (xs : List Sp),k ≤ l.length ∧ i = .int .i64 (k : Nat) ∧ t = .int .i64 ((cs.take k).flatten.length : Nat) ∧ OwnS w1.heap.size wr v xs ∧ SpI xs k (cs.take k).flatten ∧ xs = spsL (cs.take k) ∧ Ov w1 wr) (fun _ _ i _ _ _ _ => l.length - (intOf i).toNat)
  case atStart => exact ⟨0,[],Nat.zero_le _,rfl,rfl,Own.nil _,SpI.nil,rfl,ovA⟩
  case round =>
   obtain ⟨k,xs,hk,rfl,rfl,hown,hsp,hspl,⟨e2,rfl⟩⟩ := hrel;obtain ⟨av,cv,rfl,sv⟩ := Own.slice Sp.cs_len hown;have HOW := hid hown;have SV := hid sv;have HSPL := hid hspl;clear hown sv hspl;by_cases hlt : k < l.length
   · obtain ⟨c,hc1,hc2,hc3⟩ := cnt_at HF.out HM.out hlt;obtain ⟨hcne,hck⟩ := HOk.out c (List.mem_of_getElem? hc1);obtain ⟨b8,o8,rfl,hb8,hcell⟩ := SlF.at_ S1.out hlt;have z6 := hcell 6 _ rfl;have htk := take_flat hc1;have hr2 : RiseL ((cs.take k).flatten ++ c) := by
      rw [← htk];have := HR.out;rw [← HCA.out,← List.take_append_drop (k + 1) cs,List.flatten_append] at this;exact (List.pairwise_append.1 this).1
     have h0 := List.length_pos_iff.2 hcne
     have ha : c.head? = some c[0] := by cases c with
      | nil => simp at h0
      | cons a c => rfl
     have hb : c.getLast? = some (c[c.length - 1]'(by omega)) := by rw [List.getLast?_eq_getElem?,List.getElem?_eq_getElem (by omega)]
     obtain ⟨hokS,hstep⟩ := hsp.step ha hb hr2 hck.wf;rw [← htk] at hstep;obtain ⟨hp0,he0⟩ := flat_at' HCA.out hc1 h0;obtain ⟨hp9,he9⟩ := flat_at' HCA.out hc1 (show c.length - 1 < c.length by omega);obtain ⟨sb,so,rfl,hsb,y0,_⟩ := SlM.at_ SA.out hp0;obtain ⟨_,_,hq9,_,y9,_⟩ := SlM.at_ SA.out hp9;cases hq9;rw [he0] at y0;rw [he9] at y9;have hwfa := hck.wf _ (List.getElem_mem h0);have hwfb := hck.wf _ (List.getElem_mem (show c.length - 1 < c.length by omega));have hxl := hsp.len;have HAdd := hid (fun A C W (hW : SlS W A C xs) => radd_any xs hsp.wf ⟨c[0].t,(c[c.length - 1]'(by omega)).t⟩ A C W hW (by omega));rw [hokS,← add_same hsp.wf (by unfold Sm.wf i64ok at hwfa hwfb;unfold Sp.wf;simp only;omega)] at HAdd;obtain ⟨xs2,hxs2⟩ : ∃ z,addS xs ⟨c[0].t,(c[c.length - 1]'(by omega)).t⟩ = z := ⟨_,rfl⟩;rw [hxs2] at HAdd hstep;have HST := hid hstep;have HSL : Hid (xs2 = spsL (cs.take (k + 1))) := hid (by rw [spsL_take hc1 ha hb,← HSPL.out,← hxs2]);have hcl24 := hck.len;have hta : (cs.take (k + 1)).flatten.length = (cs.take k).flatten.length + c.length := by rw [htk,List.length_append]
     obtain ⟨t0,ht0⟩ : ∃ t,c[0].t = t := ⟨_,rfl⟩;obtain ⟨t1,ht1⟩ : ∃ t,(c[c.length - 1]'(by omega)).t = t := ⟨_,rfl⟩;rw [ht0,ht1] at HAdd;rw [ht0] at y0;rw [ht1] at y9;obtain ⟨cm,hcm⟩ : ∃ cm,c.length = cm + 1 := ⟨c.length - 1,by omega⟩;rw [hcm] at hc2 y9 hp9 hta hcl24;simp only [Nat.add_sub_cancel] at y9 hp9;obtain ⟨at_,hat⟩ : ∃ z,(cs.take k).flatten.length = z := ⟨_,rfl⟩;rw [hat] at y0 y9 hta hp0 hp9 ⊢;have HTA := hid hta;have z7 : w1.cell? ⟨b8,o8 + k * 11 + 6,none⟩ = some (.int .u32 ((cm + 1 : Nat) : Int)) := by rw [← hc2];exact z6
     rw [show ((cm + 1 : Nat) : Int) = (cm : Int) + 1 from rfl] at z7;have y0' : w1.cell? ⟨sb,so + at_ * 2,none⟩ = some (.int .i64 t0) := y0;have hatl : at_ + cm < al.length := hp9;have HAdd0 : Hid (∀ A C W,SlS W A C xs → Calls Tryz.prog 50 #[.slice A xs.length C,.agg #[.int .i64 t0,.int .i64 t1]] W (SpRes .i64 0 xs2 W)) := hid (fun A C W hW => HAdd.out A C W hW);have hcast1 : (at_ : Int) + ((cm : Int) + 1) - 1 = ((at_ + cm : Nat) : Int) := by omega
     clear HAdd hc1 hc2 hc3 hcne hck hcell htk hr2 ha hb hokS hstep hwfa hwfb hxs2 ht0 ht1 hsp hcl24 z6 he0 he9 h0 hcm hat hta hp0 hp9 y0;go_wp2;refine M2.wrm [15] 21 (by kernel_rfl) (by kernel_rfl) (by decide) ?_;simp only [M2.td];with_reducible refine M2.mlq 15 (by kernel_rfl) ?_
     simp only [M2.td];repeat (go_big_quiet_step (fail))
     with_reducible refine wpQuiet_nil ?_
     with_reducible refine M2.mle (by decide) ?_
     go_wp2_with ((go_at_call 50;(with_reducible refine (HAdd0.out _ _ _ (by exact slA SV.out)).mono ?_);rintro _ _ ⟨⟨e7,rfl⟩,v7,rfl,o7⟩;(try simp only [odr] at o7);have HO7 := hid (Own.mono (base' := w1.heap.size) o7 (by simp <;> omega));clear o7))
     refine M2.MixQ.mk ovA ?_;with_reducible refine M2.mlq 5 (by kernel_rfl) ?_
     simp only [M2.td];repeat (go_big_quiet_step (fail))
     with_reducible refine wpQuiet_nil ?_
     with_reducible refine M2.mln ?_
     with_reducible refine M2.mln ?_
     go_wp2;go_roundw
     case rel => exact ⟨k + 1,xs2,by omega,by go_num,by rw [HTA.out];go_num,HO7.out,HST.out,HSL.out,ovA⟩
     case measure => (simp [intOf];try omega)
   · obtain rfl : k = l.length := by omega
     have hlf := HLN.out;have HSE : Hid (xs = spsL cs) := hid (by
      have hcl : cs.length = fs.length := by have := congrArg List.length HF.out;simp at this;omega
      have h9 := HSPL.out;rw [List.take_of_length_le (by omega)] at h9;exact h9)
     clear hsp hlf;go_wp2;go_ret
     refine ⟨(ovB O1.out),_,xs,rfl,Own.mono HOW.out ?_,HSE.out⟩;obtain ⟨e,he⟩ := O1.out;rw [he];simp
end
section
open Go.RowKit
attribute [local go_sem] odr cdr
attribute [local go_sem high] smp_eql smp_neq
structure AnyS (s : Sr) : Prop where
 ok : SrOk s
 rise : RiseL s.all
 len : s.all.length ≤ 60
 cl : s.cl.length ≤ 60
theorem all_wf' {s : Sr} (h : SrOk s) : ∀ x ∈ s.all,x.wf := by
 intro x hx;unfold Sr.all at hx;rcases List.mem_append.1 hx with h1 | h1
 · obtain ⟨c,hc,hx2⟩ := List.mem_flatten.1 h1;exact (h.cl c hc).2.wf x hx2
 · exact h.op.wf x h1
theorem laid_any {W : World} {base b mb sz : Nat} {L : List Se} {ops : List (Nat × Sm)} {rs : List Rs} (h : Laid W base b mb sz L (layS sz ops) rs) (id : Nat) : AnyS (getS (bkOf L) id) := by
 have hok := getS_ok h.bk id;rw [h.eq] at hok ⊢;by_cases hx : ∃ j,∃ hj : j < (layS sz ops).length,(layS sz ops)[j].1 = id
 · obtain ⟨j,hj,rfl⟩ := hx;have hg : getS (layS sz ops) (layS sz ops)[j].1 = (layS sz ops)[j].2 := getS_at h.I.ids hj;rw [hg] at hok ⊢;have ha := (h.I.all _ (List.getElem_mem hj)).1;exact ⟨hok,all_rise ops _ (List.getElem_mem hj),ha,cl_le hok ha⟩
 · have hz : getS (layS sz ops) id = Sr.zero := getS_no (fun x hxm he => by
    obtain ⟨j,hj,rfl⟩ := List.getElem_of_mem hxm;exact hx ⟨j,hj,he⟩)
   rw [hz] at hok ⊢;exact ⟨hok,List.Pairwise.nil,by simp [Sr.zero,Sr.all],by simp [Sr.zero]⟩
theorem findAnswers_any (size : Int) (hz : -9223372036854775808 ≤ size ∧ size ≤ 9223372036854775807) (xs : List Opr) (hx : ∀ o ∈ xs,o.wf) (a : Option Addr) (cap : Nat) (id : Nat) (hid32 : id < 4294967296) (sp : Sp) (hsp : sp.wf) (t : Int) (htb : -9223372036854775808 ≤ t ∧ t ≤ 9223372036854775807) (st : Nat) (hst2 : st < 18446744073709551616) (w : World) (hT : TabW w) (hs : SlO w a cap xs) :
    Calls Tryz.prog 3 #[.int .i64 size,.slice a xs.length cap,.int .u32 (id : Nat),sp.v,.int .i64 t,.int .u64 (st : Nat)] w (Ret w (.bool true)) := by
  obtain ⟨sf,sto⟩ := sp;obtain ⟨hf1,hf2⟩ : (-9223372036854775808 ≤ sf ∧ sf ≤ 9223372036854775807) ∧ (-9223372036854775808 ≤ sto ∧ sto ≤ 9223372036854775807) := ⟨⟨hsp.1,hsp.2.1⟩,hsp.2.2⟩;have HKn := hid (fun W (hW : TabW W) => kn25_any W hW);have HBo := hid (fun (hl : xs.length ≤ 60) W (h1 : TabW W) (h2 : SlO W a cap xs) => both_any size hz xs hx hl a cap W h1 h2);obtain ⟨sz,hsz0⟩ : ∃ sz,lsz size = sz := ⟨_,rfl⟩;rw [hsz0] at HBo;obtain ⟨ops,hops⟩ : ∃ ops,opsL xs = ops := ⟨_,rfl⟩;rw [hops] at HBo;clear hz hx hsz0 hops hsp;unfold Sp.v;by_cases hl : 60 < xs.length
  · have hd : decide (60 < xs.length) = true := decide_eq_true hl
    go_enter Tryz.func3,Tryz.ntmps3;go_wp2_with (go_at_call 6;(with_reducible refine (HKn.out _ (by exact tabA hT)).mono ?_);rintro _ _ ⟨⟨e1,rfl⟩,rfl⟩)
    go_ret
    exact ⟨ovA,rfl⟩
  have hd : decide (60 < xs.length) = false := decide_eq_false hl;have HBo2 := hid (HBo.out (by omega));by_cases hgd : 0 < st ∧ sf ≤ sto
  · obtain ⟨hst,hft⟩ := hgd;clear HBo
    go_enter Tryz.func3,Tryz.ntmps3
    go_wp2_with (first
      | (go_at_call 6;(with_reducible refine (HKn.out _ (by exact tabA hT)).mono ?_);rintro _ _ ⟨⟨e1,rfl⟩,rfl⟩)
      | (go_at_call 7
         (with_reducible refine (HBo2.out _ (by exact tabA hT) (by exact slA hs)).mono ?_)
         rintro _ W1 ⟨b,mb,L,p,v,rr,R,al,cl,rs,rfl,⟨e2,hW1⟩,hLd,hsl,hrows,hRb,hRg,hR60⟩;have O1 : Hid (∃ e,W1 = over w e) := hid (by rw [hW1];exact ovA);have E1 : Hid (Blk W1 w.heap.size [.int .i64 sf,.int .i64 sto] 25) := hid (by rw [hW1];exact (by exact blA));have HT1 := hid (TabW.ov hT O1.out);have z0 := E1.out.cell 0 rfl;have z1 := E1.out.cell 1 rfl;have zl := E1.out.lt;have hany := laid_any hLd id;have hrg := hRg id;rw [← hLd.eq] at hrg;have hbk := hLd.bk;have hrl := hRb.len;have hRl : rr.length ≤ 1000000 := by omega
         obtain ⟨s,hs0⟩ : ∃ s,getS (bkOf L) id = s := ⟨_,rfl⟩;rw [hs0] at hany hrg;have hwf := all_wf' hany.ok;have hlen := hany.len;have hcl60 := hany.cl;have HLa := hid (fun W (hW : ∃ e,W = over W1 e) => flast_any (bk_ov hbk hW) (TabW.ov HT1.out hW) id hs0 hany.rise (by omega) (by omega) t);have HRl := hid (fun W (hW : ∃ e,W = over W1 e) => rlast_any (RbAt.ov hRb hW) id hRl hrg (by omega) (by omega) hany.rise t);have HBw := hid (fun W (hW : ∃ e,W = over W1 e) => between_any (bk_ov hbk hW) (TabW.ov HT1.out hW) id hs0 hany.rise (by omega) (by omega) sf sto);have HRb := hid (fun W (hW : ∃ e,W = over W1 e) => rbetween_any (RbAt.ov hRb hW) id hRl hrg (by omega) (by omega) sf sto);have HSp := hid (fun W (hW : ∃ e,W = over W1 e) => spans_any (bk_ov hbk hW) (TabW.ov HT1.out hW) id hs0 (by omega) hany.rise);have HRs := hid (fun W (hW : ∃ e,W = over W1 e) => rspans_any (RbAt.ov hRb hW) (TabW.ov HT1.out hW) id hRl hrg hany.ok (by omega) (by omega) hany.rise);have HSm := hid (fun A B C D W h1 h2 => rcsame_any (betw s.all sf sto) (betw s.all sf sto) (by have := betw_len s.all sf sto;omega) A B C D W h1 h2);rw [decide_eq_true rfl] at HSm;have HSt := hid (fun W (hW : ∃ e,W = over W1 e) => steps_any (bk_ov hbk hW) (TabW.ov HT1.out hW) id hs0 hany.rise hwf (by omega) (by omega) sf sto hf1 st hst hst2 hft);have HRt := hid (fun W (hW : ∃ e,W = over W1 e) => rsteps_yes (RbAt.ov hRb hW) id hRl hrg (by omega) (by omega) hany.rise hwf sf sto hf1 hft st hst hst2);obtain ⟨⟨⟨yt,yv⟩,yb⟩,hy⟩ : ∃ y,lastS s.all t = y := ⟨_,rfl⟩;rw [hy] at HLa HRl;simp only at HLa HRl;obtain ⟨bw,hbw⟩ : ∃ z,betw s.all sf sto = z := ⟨_,rfl⟩;rw [hbw] at HBw HRb HSm;rw [hbw] at HSt HRt;have HBL : Hid (bw.length ≤ 60) := hid (by rw [← hbw];have := betw_len s.all sf sto;omega);clear hW1 hLd hsl hrows hRb hRg hR60 hRl hany hrg hbk hrl hwf hlen hcl60 hs0 hy hbw)
      | (go_at_call 8;(with_reducible refine (HLa.out _ ovA).mono ?_);rintro _ _ ⟨⟨e3,rfl⟩,rfl⟩)
      | (go_at_call 9;(with_reducible refine (HRl.out _ ovA).mono ?_);rintro _ _ ⟨⟨e4,rfl⟩,rfl⟩)
      | (go_at_call 10
         (with_reducible refine (HSt.out _ ovA).mono ?_)
         rintro _ w8 ⟨⟨e8,hw8⟩,v8,gs,rfl,hG,o8⟩;have O8 : Hid (∃ e,w8 = over W1 e) := hid (by rw [hw8];exact ovA);have P16 : Hid (Blk w8 (W1.heap.size + e3.heap.size) [.int .i64 yt,.int .u64 (yv : Nat)] 34) := hid (by rw [hw8];exact Blk.on (Blk.alloc (Blk.on (Blk.new' (by simp)) _) _) _);have P18 : Hid (Blk w8 (W1.heap.size + e3.heap.size + 1 + e4.heap.size) [.int .i64 yt,.int .u64 (yv : Nat)] 34) := hid (by rw [hw8];exact Blk.on (Blk.new' (by simp)) _);obtain ⟨bs,hbs⟩ : ∃ z,gs.map (buOf sf st) = z := ⟨_,rfl⟩;rw [hbs] at o8;obtain ⟨a8,c8,rfl,s8⟩ := Own.slice Bu.cs_len o8;have HG := hid hG;have HBS := hid hbs;have S8 := hid s8;have hb60 : bs.length ≤ 60 := by rw [← hbs];have := hG.len;have h2 := HBL.out;simp at this ⊢;omega
         have e8b0 := (Blk.chg E1.out (Chg.of_ov O8.out []) (by simp)).cell 0 rfl;have e8b1 := (Blk.chg E1.out (Chg.of_ov O8.out []) (by simp)).cell 1 rfl;have e8l := (Blk.chg E1.out (Chg.of_ov O8.out []) (by simp)).lt;clear hw8 hG hbs o8 s8
         )
      | (go_at_call 11
         (with_reducible refine (HRt.out _ (ovB O8.out)).mono ?_)
         rintro _ w9 ⟨⟨e9,hw9⟩,v9,gs2,rfl,hI,o9⟩;obtain rfl := RstI.all hI HG.out;rw [HBS.out] at o9;have O89 : Hid (∃ e,w9 = over w8 e) := hid (by rw [hw9];exact ovA);have O9 : Hid (∃ e,w9 = over W1 e) := hid (over_trans O8.out O89.out);obtain ⟨a9,c9,rfl,s9⟩ := Own.slice Bu.cs_len o9;have S9 := hid s9;have SX := hid (Sl.ov S8.out O89.out);have HSB := hid (fun A B C D W h1 h2 => sameBu_any bs (by omega) A B C D W h1 h2);clear hw9 hI o9 s9 e8b0 e8b1 e8l;have E9 : Hid (Blk w9 w.heap.size [.int .i64 sf,.int .i64 sto] 25) := hid (by obtain ⟨e,he⟩ := O9.out;rw [he];exact Blk.on E1.out e);have P16 : Hid (Blk w9 (W1.heap.size + e3.heap.size) [.int .i64 yt,.int .u64 (yv : Nat)] 34) := hid (by obtain ⟨e,he⟩ := O89.out;rw [he];exact Blk.on P16.out e);have P18 : Hid (Blk w9 (W1.heap.size + e3.heap.size + 1 + e4.heap.size) [.int .i64 yt,.int .u64 (yv : Nat)] 34) := hid (by obtain ⟨e,he⟩ := O89.out;rw [he];exact Blk.on P18.out e)
         ))
    have b0 := E9.out.cell 0 rfl;have b1 := E9.out.cell 1 rfl;have bl := E9.out.lt;have p0 := P16.out.cell 0 rfl;have p1 := P16.out.cell 1 rfl;have pl := P16.out.lt;have q0 := P18.out.cell 0 rfl;have q1 := P18.out.cell 1 rfl;have ql := P18.out.lt;refine M2.wrm [3,7,8] 20 (by kernel_rfl) (by kernel_rfl) (by decide) ?_;simp only [M2.td];with_reducible refine M2.mlq 3 (by kernel_rfl) ?_
    simp only [M2.td];repeat (go_big_quiet_step (fail))
    with_reducible refine wpQuiet_nil ?_
    with_reducible refine M2.mle (by decide) ?_
    go_wp2_with ((go_at_call 13;(with_reducible refine (HBw.out _ (ovB O9.out)).mono ?_);rintro _ _ ⟨⟨e10,rfl⟩,v10,rfl,o10⟩;obtain ⟨a10,c10,rfl,s10⟩ := Own.slice Sm.cs_len o10;(try simp only [odr] at s10);have S10 := hid s10;clear o10 s10))
    refine M2.MixQ.mk ovA ?_;with_reducible refine M2.mlq 3 (by kernel_rfl) ?_
    simp only [M2.td];repeat (go_big_quiet_step (fail))
    with_reducible refine wpQuiet_nil ?_
    with_reducible refine M2.mle (by decide) ?_
    go_wp2_with ((go_at_call 14;(with_reducible refine (HRb.out _ (ovB O9.out)).mono ?_);rintro _ _ ⟨⟨e11,rfl⟩,v11,rfl,o11⟩;obtain ⟨a11,c11,rfl,s11⟩ := Own.slice Sm.cs_len o11;(try simp only [odr] at s11);have S11 := hid s11;clear o11 s11))
    refine M2.MixQ.mk ovA ?_;with_reducible refine M2.mle (by decide) ?_
    go_wp2_with ((go_at_call 12;(with_reducible refine (HSm.out _ _ _ _ _ (by exact slA S10.out) (by exact slA S11.out)).mono ?_);rintro _ _ ⟨⟨e12,rfl⟩,rfl⟩))
    refine M2.MixQ.mk ovA ?_;with_reducible refine M2.mlq 11 (by kernel_rfl) ?_
    simp only [M2.td];repeat (go_big_quiet_step (fail))
    with_reducible refine wpQuiet_nil ?_
    with_reducible refine M2.mln ?_
    with_reducible refine M2.mln ?_
    go_wp2_with (first
      | (go_at_call 15;(with_reducible refine (HSB.out _ _ _ _ _ (by exact slA SX.out) (by exact slA S9.out)).mono ?_);rintro _ _ ⟨⟨e13,rfl⟩,rfl⟩)
      | (go_at_call 17
         (with_reducible refine (HSp.out _ (ovB O9.out)).mono ?_)
         rintro _ _ ⟨⟨e14,rfl⟩,v14,ss,rfl,o14,_,hss⟩;obtain ⟨a14,c14,rfl,s14⟩ := Own.slice Sp.cs_len o14
         (try simp only [odr] at s14)
         have S14 := hid s14;have HSS := hid hss;clear o14 s14 hss)
      | (go_at_call 18
         (with_reducible refine (HRs.out _ (ovB O9.out)).mono ?_)
         rintro _ _ ⟨⟨e15,rfl⟩,v15,ss2,rfl,o15,hss2⟩;rw [← HSS.out] at hss2;subst hss2;obtain ⟨a15,c15,rfl,s15⟩ := Own.slice Sp.cs_len o15
         (try simp only [odr] at s15)
         have S15 := hid s15;have HQ := hid (fun A B C D W h1 h2 => same_any ss2 ss2 A B C D W h1 h2);rw [decide_eq_true rfl] at HQ;clear o15 s15)
      | (go_at_call 16;(with_reducible refine (HQ.out _ _ _ _ _ (by exact slA S14.out) (by exact slA S15.out)).mono ?_);rintro _ _ ⟨⟨e16,rfl⟩,rfl⟩))
    go_ret
    exact ⟨(ovB (ov_tr O1.out O9.out)),by simp⟩
  · have HStB := hid (fun b id W => steps_no (fr := sf) (to := sto) (st := st) (by omega) b id W);have HRtB := hid (fun p id W => rsteps_no 0 W p id sf sto st (by omega));clear HBo hgd
    go_enter Tryz.func3,Tryz.ntmps3
    go_wp2_with (first
      | (go_at_call 6;(with_reducible refine (HKn.out _ (by exact tabA hT)).mono ?_);rintro _ _ ⟨⟨e1,rfl⟩,rfl⟩)
      | (go_at_call 7
         (with_reducible refine (HBo2.out _ (by exact tabA hT) (by exact slA hs)).mono ?_)
         rintro _ W1 ⟨b,mb,L,p,v,rr,R,al,cl,rs,rfl,⟨e2,hW1⟩,hLd,hsl,hrows,hRb,hRg,hR60⟩;have O1 : Hid (∃ e,W1 = over w e) := hid (by rw [hW1];exact ovA);have E1 : Hid (Blk W1 w.heap.size [.int .i64 sf,.int .i64 sto] 25) := hid (by rw [hW1];exact (by exact blA));have HT1 := hid (TabW.ov hT O1.out);have z0 := E1.out.cell 0 rfl;have z1 := E1.out.cell 1 rfl;have zl := E1.out.lt;have hany := laid_any hLd id;have hrg := hRg id;rw [← hLd.eq] at hrg;have hbk := hLd.bk;have hrl := hRb.len;have hRl : rr.length ≤ 1000000 := by omega
         obtain ⟨s,hs0⟩ : ∃ s,getS (bkOf L) id = s := ⟨_,rfl⟩;rw [hs0] at hany hrg;have hwf := all_wf' hany.ok;have hlen := hany.len;have hcl60 := hany.cl;have HLa := hid (fun W (hW : ∃ e,W = over W1 e) => flast_any (bk_ov hbk hW) (TabW.ov HT1.out hW) id hs0 hany.rise (by omega) (by omega) t);have HRl := hid (fun W (hW : ∃ e,W = over W1 e) => rlast_any (RbAt.ov hRb hW) id hRl hrg (by omega) (by omega) hany.rise t);have HBw := hid (fun W (hW : ∃ e,W = over W1 e) => between_any (bk_ov hbk hW) (TabW.ov HT1.out hW) id hs0 hany.rise (by omega) (by omega) sf sto);have HRb := hid (fun W (hW : ∃ e,W = over W1 e) => rbetween_any (RbAt.ov hRb hW) id hRl hrg (by omega) (by omega) sf sto);have HSp := hid (fun W (hW : ∃ e,W = over W1 e) => spans_any (bk_ov hbk hW) (TabW.ov HT1.out hW) id hs0 (by omega) hany.rise);have HRs := hid (fun W (hW : ∃ e,W = over W1 e) => rspans_any (RbAt.ov hRb hW) (TabW.ov HT1.out hW) id hRl hrg hany.ok (by omega) (by omega) hany.rise);have HSm := hid (fun A B C D W h1 h2 => rcsame_any (betw s.all sf sto) (betw s.all sf sto) (by have := betw_len s.all sf sto;omega) A B C D W h1 h2);rw [decide_eq_true rfl] at HSm;obtain ⟨⟨⟨yt,yv⟩,yb⟩,hy⟩ : ∃ y,lastS s.all t = y := ⟨_,rfl⟩;rw [hy] at HLa HRl;simp only at HLa HRl;obtain ⟨bw,hbw⟩ : ∃ z,betw s.all sf sto = z := ⟨_,rfl⟩;rw [hbw] at HBw HRb HSm;clear hW1 hLd hsl hrows hRb hRg hR60 hRl hany hrg hbk hrl hwf hlen hcl60 hs0 hy hbw)
      | (go_at_call 8;(with_reducible refine (HLa.out _ ovA).mono ?_);rintro _ _ ⟨⟨e3,rfl⟩,rfl⟩)
      | (go_at_call 9;(with_reducible refine (HRl.out _ ovA).mono ?_);rintro _ _ ⟨⟨e4,rfl⟩,rfl⟩)
      | (go_at_call 10
         (with_reducible refine (HStB.out _ _ _).mono ?_)
         rintro _ w8 ⟨⟨e8,hw8⟩,rfl⟩;have O8 : Hid (∃ e,w8 = over W1 e) := hid (by rw [hw8];exact ovA);have P16 : Hid (Blk w8 (W1.heap.size + e3.heap.size) [.int .i64 yt,.int .u64 (yv : Nat)] 34) := hid (by rw [hw8];exact Blk.on (Blk.alloc (Blk.on (Blk.new' (by simp)) _) _) _);have P18 : Hid (Blk w8 (W1.heap.size + e3.heap.size + 1 + e4.heap.size) [.int .i64 yt,.int .u64 (yv : Nat)] 34) := hid (by rw [hw8];exact Blk.on (Blk.new' (by simp)) _);have e8b0 := (Blk.chg E1.out (Chg.of_ov O8.out []) (by simp)).cell 0 rfl;have e8b1 := (Blk.chg E1.out (Chg.of_ov O8.out []) (by simp)).cell 1 rfl;have e8l := (Blk.chg E1.out (Chg.of_ov O8.out []) (by simp)).lt;clear hw8
         )
      | (go_at_call 11
         (with_reducible refine (HRtB.out _ _ _).mono ?_)
         rintro _ w9 ⟨⟨e9,hw9⟩,rfl⟩;have O89 : Hid (∃ e,w9 = over w8 e) := hid (by rw [hw9];exact ovA);have O9 : Hid (∃ e,w9 = over W1 e) := hid (over_trans O8.out O89.out);have HSB : Hid (∀ W,Calls Tryz.prog 15 #[.slice none 0 0,.slice none 0 0] W (Ret W (.bool true))) := hid (fun W => sameBu_any [] (by simp) none none 0 0 W (Sl.nil _) (Sl.nil _));clear hw9 e8b0 e8b1 e8l;have E9 : Hid (Blk w9 w.heap.size [.int .i64 sf,.int .i64 sto] 25) := hid (by obtain ⟨e,he⟩ := O9.out;rw [he];exact Blk.on E1.out e);have P16 : Hid (Blk w9 (W1.heap.size + e3.heap.size) [.int .i64 yt,.int .u64 (yv : Nat)] 34) := hid (by obtain ⟨e,he⟩ := O89.out;rw [he];exact Blk.on P16.out e);have P18 : Hid (Blk w9 (W1.heap.size + e3.heap.size + 1 + e4.heap.size) [.int .i64 yt,.int .u64 (yv : Nat)] 34) := hid (by obtain ⟨e,he⟩ := O89.out;rw [he];exact Blk.on P18.out e)
         ))
    have b0 := E9.out.cell 0 rfl;have b1 := E9.out.cell 1 rfl;have bl := E9.out.lt;have p0 := P16.out.cell 0 rfl;have p1 := P16.out.cell 1 rfl;have pl := P16.out.lt;have q0 := P18.out.cell 0 rfl;have q1 := P18.out.cell 1 rfl;have ql := P18.out.lt;refine M2.wrm [3,7,8] 20 (by kernel_rfl) (by kernel_rfl) (by decide) ?_;simp only [M2.td];with_reducible refine M2.mlq 3 (by kernel_rfl) ?_
    simp only [M2.td];repeat (go_big_quiet_step (fail))
    with_reducible refine wpQuiet_nil ?_
    with_reducible refine M2.mle (by decide) ?_
    go_wp2_with ((go_at_call 13;(with_reducible refine (HBw.out _ (ovB O9.out)).mono ?_);rintro _ _ ⟨⟨e10,rfl⟩,v10,rfl,o10⟩;obtain ⟨a10,c10,rfl,s10⟩ := Own.slice Sm.cs_len o10;(try simp only [odr] at s10);have S10 := hid s10;clear o10 s10))
    refine M2.MixQ.mk ovA ?_;with_reducible refine M2.mlq 3 (by kernel_rfl) ?_
    simp only [M2.td];repeat (go_big_quiet_step (fail))
    with_reducible refine wpQuiet_nil ?_
    with_reducible refine M2.mle (by decide) ?_
    go_wp2_with ((go_at_call 14;(with_reducible refine (HRb.out _ (ovB O9.out)).mono ?_);rintro _ _ ⟨⟨e11,rfl⟩,v11,rfl,o11⟩;obtain ⟨a11,c11,rfl,s11⟩ := Own.slice Sm.cs_len o11;(try simp only [odr] at s11);have S11 := hid s11;clear o11 s11))
    refine M2.MixQ.mk ovA ?_;with_reducible refine M2.mle (by decide) ?_
    go_wp2_with ((go_at_call 12;(with_reducible refine (HSm.out _ _ _ _ _ (by exact slA S10.out) (by exact slA S11.out)).mono ?_);rintro _ _ ⟨⟨e12,rfl⟩,rfl⟩))
    refine M2.MixQ.mk ovA ?_;with_reducible refine M2.mlq 11 (by kernel_rfl) ?_
    simp only [M2.td];repeat (go_big_quiet_step (fail))
    with_reducible refine wpQuiet_nil ?_
    with_reducible refine M2.mln ?_
    with_reducible refine M2.mln ?_
    go_wp2_with (first
      | (go_at_call 15;(with_reducible refine (HSB.out _).mono ?_);rintro _ _ ⟨⟨e13,rfl⟩,rfl⟩)
      | (go_at_call 17
         (with_reducible refine (HSp.out _ (ovB O9.out)).mono ?_)
         rintro _ _ ⟨⟨e14,rfl⟩,v14,ss,rfl,o14,_,hss⟩;obtain ⟨a14,c14,rfl,s14⟩ := Own.slice Sp.cs_len o14
         (try simp only [odr] at s14)
         have S14 := hid s14;have HSS := hid hss;clear o14 s14 hss)
      | (go_at_call 18
         (with_reducible refine (HRs.out _ (ovB O9.out)).mono ?_)
         rintro _ _ ⟨⟨e15,rfl⟩,v15,ss2,rfl,o15,hss2⟩;rw [← HSS.out] at hss2;subst hss2;obtain ⟨a15,c15,rfl,s15⟩ := Own.slice Sp.cs_len o15
         (try simp only [odr] at s15)
         have S15 := hid s15;have HQ := hid (fun A B C D W h1 h2 => same_any ss2 ss2 A B C D W h1 h2);rw [decide_eq_true rfl] at HQ;clear o15 s15)
      | (go_at_call 16;(with_reducible refine (HQ.out _ _ _ _ _ (by exact slA S14.out) (by exact slA S15.out)).mono ?_);rintro _ _ ⟨⟨e16,rfl⟩,rfl⟩))
    go_ret
    exact ⟨(ovB (ov_tr O1.out O9.out)),by simp⟩
end
end Go.Proofs.YtoolooffpphmdaaGreatDoor
