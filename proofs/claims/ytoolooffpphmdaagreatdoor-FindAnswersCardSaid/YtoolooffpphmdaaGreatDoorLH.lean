import Derived.Test.YtoolooffpphmdaaGreatDoorLG
import Derived.Test.YtoolooffpphmdaaGreatDoorKA
import Derived.Test.YtoolooffpphmdaaGreatDoorLC
namespace Go.Proofs.YtoolooffpphmdaaGreatDoor
set_option linter.unusedVariables false
set_option linter.unusedSimpArgs false
set_option maxRecDepth 100000
set_option maxHeartbeats 4000000
section
open Go.RowKit
def SpOk (l : List Sp) : Prop := (∀ x ∈ l,x.f ≤ x.t) ∧ l.Pairwise (fun a b => a.t + 1 < b.f)
theorem SpOk.sound {l : List Sp} (h : SpOk l) : spSoundB l = true := by
 rw [spSoundB_iff];intro i hi;refine ⟨h.1 _ (List.getElem_mem hi),fun h0 => ?_⟩;have := (List.pairwise_iff_getElem.1 h.2) (i - 1) i (by omega) hi (by omega);exact decide_eq_true this
theorem SpOk.snoc {l : List Sp} {s : Sp} (h : SpOk l) (hs : s.f ≤ s.t) (hl : ∀ x ∈ l,x.t + 1 < s.f) : SpOk (l ++ [s]) := by
 refine ⟨fun x hx => ?_,List.pairwise_append.2 ⟨h.2,by simp,fun a ha b hb => ?_⟩⟩
 · rcases List.mem_append.1 hx with hx | hx
   · exact h.1 x hx
   · simp at hx;subst hx;exact hs
 · simp at hb;subst hb;exact hl a ha
theorem addGo_end : ∀ (l : List Sp) (s : Sp) (out : List Sp),SpOk l → s.f ≤ s.t → (∀ x ∈ l,x.t < s.f) →
    ((∀ x ∈ l,x.t + 1 < s.f) ∧ addGo l s out = out ++ l ++ [s]) ∨ ∃ ys x,l = ys ++ [x] ∧ x.t + 1 = s.f ∧ addGo l s out = out ++ ys ++ [⟨x.f,s.t⟩]
  | [],s,out,_,_,_ => .inl ⟨by simp,by simp [addGo]⟩
  | x :: l,s,out,h,hs,hl => by
   have hx := hl x (by simp);have hxo := h.1 x (by simp);have hp := List.pairwise_cons.1 h.2;by_cases ha : x.t + 1 < s.f
   · have h1 : apartB x s = true := decide_eq_true ha;rw [addGo_1 h1];rcases addGo_end l s (out ++ [x]) ⟨fun y hy => h.1 y (by simp [hy]),hp.2⟩ hs (fun y hy => hl y (by simp [hy])) with ⟨h2,h3⟩ | ⟨ys,y,h2,h3,h4⟩
     · refine .inl ⟨fun y hy => ?_,by rw [h3];simp⟩;rcases List.mem_cons.1 hy with rfl | hy
       · exact ha
       · exact h2 y hy
     · exact .inr ⟨x :: ys,y,by rw [h2];simp,h3,by rw [h4];simp⟩
   · have h1 : apartB x s = false := decide_eq_false ha;have h2 : apartB s x = false := decide_eq_false (by omega);have hl0 : l = [] := by
      match l,hp,hl,h with
      | [],_,_,_ => rfl
      | y :: l,hp,hl,h =>
       have h5 := hp.1 y (by simp);have h6 := hl y (by simp);have h7 := h.1 y (by simp);omega
     subst hl0;rw [addGo_3 h1 h2];refine .inr ⟨[],x,rfl,by omega,?_⟩;have hm : mrg s x = ⟨x.f,s.t⟩ := by
      unfold mrg;rw [if_pos (by omega),if_neg (by omega)]
     rw [hm];simp [addGo]
structure SpI (xs : List Sp) (n : Nat) (l : List Sm) : Prop where
 ok : SpOk xs
 wf : ∀ x ∈ xs,x.wf
 len : xs.length ≤ n
 has : ∀ y ∈ l,hasS xs y.t = true
 hd : xs.head?.map Sp.f = l.head?.map Sm.t
 lt : xs.getLast?.map Sp.t = l.getLast?.map Sm.t
theorem SpI.nil : SpI [] 0 [] := ⟨⟨by simp,by simp⟩,by simp,by simp,by simp,rfl,rfl⟩
theorem SpI.skip {xs : List Sp} {n : Nat} {l : List Sm} (h : SpI xs n l) : SpI xs (n + 1) l := ⟨h.ok,h.wf,by have := h.len;omega,h.has,h.hd,h.lt⟩
theorem SpI.le {xs : List Sp} {n : Nat} {l : List Sm} (h : SpI xs n l) {z : Sm} (hz : l.getLast? = some z) : ∀ x ∈ xs,x.t ≤ z.t := by
 have h1 := h.lt;rw [hz] at h1;intro x hx;cases hxl : xs.getLast? with
 | none => rw [hxl] at h1;simp at h1
 | some y =>
  rw [hxl] at h1;simp at h1;obtain ⟨ys,rfl⟩ := List.getLast?_eq_some_iff.1 hxl;rcases List.mem_append.1 hx with hx | hx
  · have h2 := (List.pairwise_append.1 h.ok.2).2.2 x hx y (by simp);have h3 := h.ok.1 y (by simp);omega
  · simp at hx;subst hx;omega
theorem hasS_iff {l : List Sp} {t : Int} : hasS l t = true ↔ ∃ x ∈ l,x.f ≤ t ∧ t ≤ x.t := by
 unfold hasS;simp [List.any_eq_true]
theorem SpI.step {xs : List Sp} {n : Nat} {l c : List Sm} (h : SpI xs n l) {a b : Sm} (ha : c.head? = some a) (hb : c.getLast? = some b) (hr : RiseL (l ++ c)) (hw : ∀ x ∈ c,x.wf) : okSp xs ⟨a.t,b.t⟩ = true ∧ SpI (addS xs ⟨a.t,b.t⟩) (n + 1) (l ++ c) := by
 have hrc := List.pairwise_append.1 hr;have hac : a ∈ c := List.mem_of_mem_head? (by rw [ha];simp);have hbc : b ∈ c := List.mem_of_getLast? hb
 -- all of a chunk lies between its first and its last
 have hge : ∀ y ∈ c,a.t ≤ y.t := by
  cases c with
  | nil => simp at ha
  | cons a' c =>
   simp at ha;subst ha;intro y hy;rcases List.mem_cons.1 hy with rfl | hy
   · exact Int.le_refl _
   · have := (List.pairwise_cons.1 hrc.2.1).1 y hy;omega
 have hle : ∀ y ∈ c,y.t ≤ b.t := by
  obtain ⟨ys,rfl⟩ := List.getLast?_eq_some_iff.1 hb;intro y hy;rcases List.mem_append.1 hy with hy | hy
  · have := (List.pairwise_append.1 hrc.2.1).2.2 y hy b (by simp);omega
  · simp at hy;subst hy;exact Int.le_refl _
 have hab := hge b hbc;have hlt : ∀ x ∈ xs,x.t < a.t := by
  intro x hx;cases hz : l.getLast? with
  | none =>
   have h1 := h.lt;rw [hz] at h1
   have : xs = [] := by cases xs with
    | nil => rfl
    | cons x xs => simp at h1
   subst this;simp at hx
  | some z =>
   have h1 := h.le hz x hx;have h2 := hrc.2.2 z (List.mem_of_getLast? hz) a hac;omega
 have hok : okSp xs ⟨a.t,b.t⟩ = true := by unfold okSp;rw [h.ok.sound];simp;omega
 refine ⟨hok,?_⟩;have hwab : (⟨a.t,b.t⟩ : Sp).wf := by have h1 := hw a hac;have h2 := hw b hbc;unfold Sm.wf i64ok at h1 h2;unfold Sp.wf;simp only;omega
 unfold addS;rw [if_pos hok];have hlast : (l ++ c).getLast?.map Sm.t = some b.t := by rw [List.getLast?_append,hb];rfl
 rcases addGo_end xs ⟨a.t,b.t⟩ [] h.ok hab hlt with ⟨h1,h2⟩ | ⟨ys,x,rfl,h1,h2⟩
 · rw [h2,List.nil_append];refine ⟨h.ok.snoc hab h1,?_,?_,?_,?_,?_⟩
   · intro y hy;rcases List.mem_append.1 hy with hy | hy
     · exact h.wf y hy
     · simp at hy;subst hy;exact hwab
   · have := h.len;simp;omega
   · intro y hy;rw [hasS_iff];rcases List.mem_append.1 hy with hy | hy
     · obtain ⟨z,h3,h4⟩ := hasS_iff.1 (h.has y hy);exact ⟨z,by simp [h3],h4⟩
     · exact ⟨⟨a.t,b.t⟩,by simp,hge y hy,hle y hy⟩
   · have h3 := h.hd;cases l with
     | nil =>
      cases xs with
      | nil => simp [ha]
      | cons x xs => simp at h3
     | cons z l =>
      cases xs with
      | nil => simp at h3
      | cons x xs => simpa using h3
   · rw [hlast];simp
 · have hlen := h.len;have hokx := h.ok;have hwx := h.wf;have hhas := h.has;have hhd := h.hd;rw [h2,List.nil_append];have h5 := (List.pairwise_append.1 hokx.2).2.2;have h6 := hokx.1 x (by simp);simp only at h1;refine ⟨SpOk.snoc ⟨fun y hy => hokx.1 y (by simp [hy]),(List.pairwise_append.1 hokx.2).1⟩ (by simp only;omega) (fun y hy => h5 y hy x (by simp)),?_,?_,?_,?_,?_⟩
   · intro y hy;rcases List.mem_append.1 hy with hy | hy
     · exact hwx y (by simp [hy])
     · simp at hy;subst hy;have h7 := hwx x (by simp);unfold Sp.wf at *;simp only at *;omega
   · simp at hlen ⊢;omega
   · intro y hy;rw [hasS_iff];rcases List.mem_append.1 hy with hy | hy
     · obtain ⟨z,h3,h4⟩ := hasS_iff.1 (hhas y hy);rcases List.mem_append.1 h3 with h3 | h3
       · exact ⟨z,by simp [h3],h4⟩
       · simp at h3;subst h3;exact ⟨⟨z.f,b.t⟩,by simp,h4.1,by simp only;omega⟩
     · have h7 := hge y hy;have h8 := hle y hy;exact ⟨⟨x.f,b.t⟩,by simp,by simp only;omega,h8⟩
   · cases l with
      | nil => cases ys <;> simp at hhd
      | cons z l =>
       cases ys with
       | nil => simpa using hhd
       | cons q ys => simpa using hhd
   · rw [hlast];simp
end
section
open Go.RowKit
def Sr.full (s : Sr) : List (List Sm) := s.cl ++ (if s.op = [] then [] else [s.op])
theorem full_all (s : Sr) : s.full.flatten = s.all := by
 unfold Sr.full Sr.all;rw [List.flatten_append];split
 · rename_i h;simp [h]
 · simp
theorem full_ok {s : Sr} (hok : SrOk s) : ∀ c ∈ s.full,c ≠ [] ∧ ChkOk c := by
 intro c hc;unfold Sr.full at hc;rcases List.mem_append.1 hc with h | h
 · exact hok.cl c h
 · split at h
   · simp at h
   · rename_i h0;simp at h;subst h;exact ⟨h0,hok.op⟩
theorem frs_full {s : Sr} (hok : SrOk s) (id : Nat) : (s.frs id (s.cl.length + 1)).map Fr.bits = s.full.map (bitsC En.zero) := by
 rw [frs_all hok];unfold Sr.full;rw [List.map_append,List.map_append,List.map_map]
 congr 1
 · apply List.ext_getElem
   · simp
   · intro i h1 h2;simp at h1 h2;simp [chF,h2]
 · split <;> simp [chF]
end
section
open Go.RowKit
attribute [local go_sem] odr cdr
theorem bits_at {fs : List Fr} {cs : List (List Sm)} {l : List Fx} (h : fs.map Fr.bits = cs.map (bitsC En.zero)) (hm : l.map Fx.f = fs) {k : Nat} (hk : k < l.length) : ∃ c,cs[k]? = some c ∧ l[k].f.bits = bitsC En.zero c ∧ cs.length = l.length := by
 have hl : cs.length = l.length := by
  have h1 := congrArg List.length h;have h2 := congrArg List.length hm;simp at h1 h2;omega
 have hc : k < cs.length := by omega
 refine ⟨cs[k],List.getElem?_eq_getElem hc,?_,hl⟩;have h3 := congrArg (fun z => z[k]?) h;rw [← hm] at h3;simp [hc,hk] at h3;exact h3
def spsL (cs : List (List Sm)) : List Sp := cs.foldl (fun xs c => addS xs ⟨(c.head?.map Sm.t).getD 0,(c.getLast?.map Sm.t).getD 0⟩) []
theorem spsL_take {cs : List (List Sm)} {k : Nat} {c : List Sm} (h : cs[k]? = some c) {a b : Sm} (ha : c.head? = some a) (hb : c.getLast? = some b) : spsL (cs.take (k + 1)) = addS (spsL (cs.take k)) ⟨a.t,b.t⟩ := by
 obtain ⟨hk,rfl⟩ := List.getElem?_eq_some_iff.1 h;unfold spsL;rw [List.take_succ_eq_append_getElem hk,List.foldl_append];simp [ha,hb]
def SpsPost (w : World) (n : Nat) (l : List Sm) (cs : List (List Sm)) (en : Ending) (w' : World) : Prop := (∃ e,w' = over w e) ∧ ∃ v xs,en = .returned v ∧ OwnS w.heap.size w' v xs ∧ SpI xs n l ∧ xs = spsL cs
theorem spans_any {base : Nat} {w : World} {b n sz mb : Nat} {L : List Se} (h : BkAt base w b n sz mb L) (hT : TabW w) (id : Nat) {s : Sr} (hs0 : getS (bkOf L) id = s) (hcl : s.cl.length ≤ 900) (hr : RiseL s.all) :
    Calls Tryz.prog 17 #[.pointer (some ⟨b,0,none⟩),.int .u32 (id : Nat)] w (SpsPost w (s.frs id (s.cl.length + 1)).length s.all s.full) := by
  have hok : SrOk s := by rw [← hs0];exact getS_ok h id
  have HC := hid (fun W (hW : ∃ e,W = over w e) => chunks_any (bk_ov h hW) id hs0 hcl);have hfl := frs_len s id (s.cl.length + 1);obtain ⟨fs,hfs⟩ : ∃ fs,s.frs id (s.cl.length + 1) = fs := ⟨_,rfl⟩;have hfull := frs_full hok id;rw [hfs] at HC hfull hfl ⊢;obtain ⟨al,hal⟩ : ∃ l,s.all = l := ⟨_,rfl⟩;have hca := full_all s;rw [hal] at hr hca ⊢;have HOk := hid (full_ok hok);obtain ⟨cs,hcs⟩ : ∃ cs,s.full = cs := ⟨_,rfl⟩;rw [hcs] at HOk hfull hca ⊢;have HF := hid hfull;have HR := hid hr;have HCA := hid hca;have hTw := hT;clear h hs0 hT hok hfs hfull hal hr hca hcs
  go_enter Tryz.func17,Tryz.ntmps17
  go_wp2_with (
    (go_at_call 46)
    (with_reducible refine (HC.out _ ovA).mono ?_)
    rintro _ w1 ⟨⟨e1,hw1⟩,v1,l,rfl,hm1,hf1⟩;have O1 : Hid (∃ e,w1 = over w e) := hid (by rw [hw1];exact ovA);obtain ⟨a1,c1,rfl,s1⟩ := Own.slice Fx.cs_len hf1.row;have HF1 := hid hf1;have HM := hid hm1;have S1 := hid s1;have HLN : Hid (l.length = fs.length) := hid (by rw [← hm1];simp)
    have hll : l.length ≤ 1000 := by have : l.length = fs.length := by rw [← hm1];simp
                                     omega
    clear hw1 hm1 hf1 s1)
  have HT1 := hid (TabW.ov hTw O1.out)
  go_loopw [5,15] (fun v i wr => ∃ (k : Nat) (xs : List Sp),k ≤ l.length ∧ i = .int .i64 (k : Nat) ∧ OwnS w1.heap.size wr v xs ∧ SpI xs k (cs.take k).flatten ∧ xs = spsL (cs.take k) ∧ Ov w1 wr) (fun _ i _ => l.length - (intOf i).toNat)
  case atStart => exact ⟨0,[],Nat.zero_le _,rfl,Own.nil _,SpI.nil,rfl,ovs _⟩
  case round =>
   obtain ⟨k,xs,hk,rfl,hown,hsp,hspl,⟨e0,rfl⟩⟩ := hrel;have HSPL := hid hspl;clear hspl;obtain ⟨av,cv,rfl,sv⟩ := Own.slice Sp.cs_len hown;have HOW := hid hown;have SV := hid sv;clear hown sv;by_cases hlt : k < l.length
   · obtain ⟨c,hc1,hc2,hc3⟩ := bits_at HF.out HM.out hlt;obtain ⟨hcne,hck⟩ := HOk.out c (List.mem_of_getElem? hc1);obtain ⟨b8,o8,rfl,hb8,hcell⟩ := SlF.at_ S1.out hlt;have z0 := hcell 0 _ rfl;rw [Nat.add_zero] at z0;have z1 := hcell 1 _ rfl;have z2 := hcell 2 _ rfl;have z3 := hcell 3 _ rfl;have z4 := hcell 4 _ rfl;have z5 := hcell 5 _ rfl;have z6 := hcell 6 _ rfl;have z7 := hcell 7 _ rfl;have z8 := hcell 8 _ rfl;have z9 := hcell 9 _ rfl;have z10 := hcell 10 _ rfl;have hbt := HF1.out.bits _ (List.getElem_mem hlt);obtain ⟨fa,hfa⟩ : ∃ x,l[k].a = x := ⟨_,rfl⟩;obtain ⟨fc,hfc⟩ : ∃ x,l[k].cap = x := ⟨_,rfl⟩;unfold Fx.bv at hbt;rw [hc2,hfa,hfc] at hbt;rw [hc2,hfa,hfc] at z9;rw [hc2] at z10;generalize l[k].f = f0 at z0 z1 z2 z3 z4 z5 z6 z7 z8;obtain ⟨f1,⟨f2,f3,f4⟩,f5,f6,f7,_⟩ := f0;simp only at z0 z1 z2 z3 z4 z5 z6 z7 z8;have SB : Hid (SlB w1 fa fc (pack (bitsC En.zero c))) := hid (Own.slice' bcs_len hbt).2;have HAll := hid (fun A C W (h1 : TabW W) (h2 : SlB W A C (pack (bitsC En.zero c))) => all_good hck.wf (by have := hck.len;omega) hck.good A C W h1 h2);have htk := take_flat hc1;have hr2 : RiseL ((cs.take k).flatten ++ c) := by
      rw [← htk];have := HR.out;rw [← HCA.out,← List.take_append_drop (k + 1) cs,List.flatten_append] at this;exact (List.pairwise_append.1 this).1
     have h0 := List.length_pos_iff.2 hcne
     have ha : c.head? = some c[0] := by cases c with
      | nil => simp at h0
      | cons a c => rfl
     have hb : c.getLast? = some (c[c.length - 1]'(by omega)) := by rw [List.getLast?_eq_getElem?,List.getElem?_eq_getElem (by omega)]
     obtain ⟨hokS,hstep⟩ := hsp.step ha hb hr2 hck.wf;rw [← htk] at hstep;have hwfa := hck.wf _ (List.getElem_mem h0);have hwfb := hck.wf _ (List.getElem_mem (show c.length - 1 < c.length by omega));have hxl := hsp.len;have HAdd := hid (fun A C W (hW : SlS W A C xs) => add_any xs hsp.wf ⟨c[0].t,(c[c.length - 1]'(by omega)).t⟩ (by unfold Sm.wf i64ok at hwfa hwfb;unfold Sp.wf;simp only;omega) A C W hW (by omega));rw [hokS] at HAdd;obtain ⟨xs2,hxs2⟩ : ∃ z,addS xs ⟨c[0].t,(c[c.length - 1]'(by omega)).t⟩ = z := ⟨_,rfl⟩;rw [hxs2] at HAdd hstep;have HST := hid hstep;have HSL : Hid (xs2 = spsL (cs.take (k + 1))) := hid (by rw [spsL_take hc1 ha hb,← HSPL.out,← hxs2]);obtain ⟨ee,hee⟩ : ∃ ee,knowC En.zero c = ee := ⟨_,rfl⟩;rw [hee] at HAll;obtain ⟨n0,n1,n2,⟨n3,n4,n5,n6⟩⟩ := ee;obtain ⟨LL,hLL⟩ : ∃ LL,bitsC En.zero c = LL := ⟨_,rfl⟩;rw [hLL] at HAll SB z9 z10;obtain ⟨t0,ht0⟩ : ∃ t,c[0].t = t := ⟨_,rfl⟩;obtain ⟨t1,ht1⟩ : ∃ t,(c[c.length - 1]'(by omega)).t = t := ⟨_,rfl⟩;rw [ht0,ht1] at HAdd;have HT0 := hid ht0;have HT9 := hid ht1;have hcl24 := hck.len;obtain ⟨cl,hcl9⟩ : ∃ z,c.length = z := ⟨_,rfl⟩;have HCL := hid hcl9;have hHAll : Hid (∀ A C W,TabW W → SlB W A C (pack LL) → Calls Tryz.prog 47 #[bv A (pack LL).length C LL.length] W (fun en w' => ∃ a c',en = .returned (.tuple #[.slice a cl c',.agg #[.int .i64 n0,.int .i64 n1,.int .i64 n2,.bool n3,.int .u64 (n4 : Nat),.int .u8 (n5 : Nat),.int .u8 (n6 : Nat)],.int .u16 0]) ∧ (∃ x,w' = over W x) ∧ SlM w' a c' c)) := hid (fun A C W h1 h2 => by rw [← hcl9];exact HAll.out A C W h1 h2);have hclp : 0 < cl := by omega
     have hcl30 : cl ≤ 24 := by omega
     obtain ⟨cm,hcm⟩ : ∃ cm,cl = cm + 1 := ⟨cl - 1,by omega⟩;subst hcm;have HAdd0 : Hid (∀ A C W,SlS W A C xs → Calls Tryz.prog 48 #[.slice A xs.length C,.agg #[.int .i64 t0,.int .i64 t1]] W (SpRes .u16 0 xs2 W)) := hid (fun A C W hW => HAdd.out A C W hW);clear HAll hc1 hc2 hc3 hcne hck hcell hbt hfa hfc htk hr2 ha hb hokS hstep hwfa hwfb hxs2 hee hLL ht0 ht1 hcl9 hsp hcl24
     go_wp2_with (
       (go_at_call 47)
       (with_reducible refine (hHAll.out _ _ _ (by exact tabA HT1.out) (by exact slA SB.out)).mono ?_)
       rintro _ w6 ⟨a6,c6,rfl,⟨e6,hw6⟩,s6⟩;have O6 : Hid (∃ e,w6 = over w1 e) := hid (by rw [hw6];exact ovA);have S6 := hid s6;have SV6 : Hid (SlS w6 av cv xs) := hid (by rw [hw6];exact (by exact slA SV.out));obtain ⟨b6,o6,rfl,hb6,y0,_⟩ := SlM.at_ s6 (k := 0) (by rw [HCL.out];exact hclp);obtain ⟨_,_,he6,_,y9,_⟩ := SlM.at_ s6 (k := c.length - 1) (by rw [HCL.out];omega);cases he6;rw [HT0.out] at y0;rw [HT9.out,HCL.out,Nat.add_sub_cancel] at y9;simp only [Nat.zero_mul,Nat.add_zero] at y0;have hsz6 : w1.heap.size ≤ w6.heap.size := by obtain ⟨e,he⟩ := O6.out;rw [he];simp
       clear hw6 s6)
     refine M2.wrm [13] 18 (by kernel_rfl) (by kernel_rfl) (by decide) ?_;simp only [M2.td];with_reducible refine M2.mlq 13 (by kernel_rfl) ?_
     simp only [M2.td];repeat (go_big_quiet_step (fail))
     refine wpQuiet_nil ?_;refine M2.mle (by decide) ?_;go_wp2_with ((go_at_call 48;(with_reducible refine (HAdd0.out _ _ _ (by exact slA SV6.out)).mono ?_);rintro _ _ ⟨⟨e7,rfl⟩,v7,rfl,o7⟩;(try simp only [odr] at o7);have HO7 := hid (Own.mono (base' := w1.heap.size) o7 (by simp;omega));clear o7))
     refine M2.MixQ.mk ovA ?_;with_reducible refine M2.mlq 4 (by kernel_rfl) ?_
     simp only [M2.td];repeat (go_big_quiet_step (fail))
     refine wpQuiet_nil ?_;refine M2.mln ?_;refine M2.mln ?_;go_wp2;go_roundw
     case rel => exact ⟨k + 1,xs2,by omega,by go_num,HO7.out,HST.out,HSL.out,(ovB O6.out)⟩
     case measure => (simp [intOf];try omega)
   · obtain rfl : k = l.length := by omega
     have hlf := HLN.out;have hsp2 : SpI xs fs.length al := by
      have hcl : cs.length = fs.length := by have := congrArg List.length HF.out;simp at this;omega
      rw [List.take_of_length_le (by omega),HCA.out,hlf] at hsp;exact hsp
     have HS2 := hid hsp2;have HSE : Hid (xs = spsL cs) := hid (by
      have hcl : cs.length = fs.length := by have := congrArg List.length HF.out;simp at this;omega
      have h9 := HSPL.out;rw [List.take_of_length_le (by omega)] at h9;exact h9)
     clear hsp hsp2 hlf;go_wp2;go_ret
     refine ⟨(ovB O1.out),_,xs,rfl,Own.mono HOW.out ?_,HS2.out,HSE.out⟩;obtain ⟨e,he⟩ := O1.out;rw [he];simp
end
end Go.Proofs.YtoolooffpphmdaaGreatDoor
