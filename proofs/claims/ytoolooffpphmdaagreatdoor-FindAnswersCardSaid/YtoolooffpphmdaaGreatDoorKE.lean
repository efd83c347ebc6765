import Derived.Test.YtoolooffpphmdaaGreatDoorKA
import Derived.Test.YtoolooffpphmdaaGreatDoorKD
import Derived.Test.YtoolooffpphmdaaGreatDoorHE
import Derived.Test.YtoolooffpphmdaaGreatDoorLLaid
import Derived.Test.YtoolooffpphmdaaGreatDoorKC
import Derived.Test.YtoolooffpphmdaaGreatDoorLayW
namespace Go.Proofs.YtoolooffpphmdaaGreatDoor
set_option linter.unusedVariables false
set_option linter.unusedSimpArgs false
set_option maxRecDepth 100000
set_option maxHeartbeats 4000000
section
open Go.RowKit
attribute [local go_sem] odr cdr
abbrev fS1 : List (Nat × Sr) := [(7,⟨[],[⟨1,2⟩]⟩)]
abbrev fS2 : List (Nat × Sr) := [(7,⟨[],[⟨1,2⟩,⟨3,5⟩]⟩)]
abbrev fS3 : List (Nat × Sr) := [(7,⟨[],k25⟩)]
theorem f_may1 : (getS [] 7).may 1 := by simp [getS,Sr.may,Sr.zero]
theorem f_put1 : putS 4 [] 7 ⟨1,2⟩ = fS1 := by rfl
theorem f_get1 : getS fS1 7 = ⟨[],[⟨1,2⟩]⟩ := by rfl
theorem f_get2 : getS fS2 7 = ⟨[],[⟨1,2⟩,⟨3,5⟩]⟩ := by rfl
theorem f_get3 : getS fS3 7 = ⟨[],k25⟩ := by rfl
theorem f_last1 : (knowC En.zero [⟨1,2⟩]).last = 1 := by kernel_rfl
theorem f_last2 : (knowC En.zero [⟨1,2⟩,⟨3,5⟩]).last = 3 := by kernel_rfl
theorem f_may2 : (getS fS1 7).may 3 := by
 rw [f_get1];unfold Sr.may;rw [if_neg (by simp),f_last1];decide
theorem f_may3 : (getS fS2 7).may 9 := by
 rw [f_get2];unfold Sr.may;rw [if_neg (by simp),f_last2];decide
theorem f_put2 : putS 4 fS1 7 ⟨3,5⟩ = fS2 := by rfl
theorem f_put3 : putS 4 fS2 7 ⟨9,1⟩ = fS3 := by rfl
theorem f_there {L : List Se} {S : List (Nat × Sr)} {s : Sr} (h : bkOf L = [(7,s)]) : ∃ i,∃ h : i < L.length,L[i].id = 7 := by
 have hl : L.length = 1 := by rw [bk_len h];rfl
 refine ⟨0,by omega,?_⟩;have h1 := congrArg (fun l => l[0]?) h;simp [List.getElem?_eq_getElem (show 0 < L.length by omega)] at h1;exact h1.1
theorem f_last : lastS k25 8 = (⟨3,5⟩,true) := by rfl
def BkSt (w : World) (b mb : Nat) (S : List (Nat × Sr)) (w' : World) : Prop := ∃ L,(∃ e,w' = over w e) ∧ BkAt w.heap.size w' b 1 4 mb L ∧ bkOf L = S
theorem bkst_put {w w1 : World} {b mb : Nat} {S S' : List (Nat × Sr)} {s : Sr} {x : Sm} (hT : TabW w) (h : BkSt w b mb S w1) (hS : S = [(7,s)]) (hm : (getS S 7).may x.t) (hp : putS 4 S 7 x = S') (hcl : s.cl.length ≤ 900) (hx : x.wf) :
    ∀ W,(∃ e,W = over w1 e) → Calls Tryz.prog 36 #[.pointer (some ⟨b,0,none⟩),.int .u32 7,.agg #[.int .i64 x.t,.int .u64 (x.v : Nat)]] W (fun en w' => en = .returned (.int .u16 0) ∧ BkSt w b mb S' w') := by
  intro W hW;obtain ⟨L,ho,hb,hL⟩ := h;have hoW : ∃ e,W = over w e := ov_tr ho hW;have hle : w.heap.size ≤ W.heap.size := by obtain ⟨e,rfl⟩ := hoW;simp
  refine (put_there (bk_ov hb hW) hle (TabW.ov hT hoW) (by rw [bk_len hL,hS];simp) (by omega) (by omega) (id := 7) (f_there (S := S) (by rw [hL,hS])) (by rw [hL,hS];exact hcl) x hx).mono ?_;intro en w' hpp;unfold PutB at hpp;rw [hL,if_pos hm,hp] at hpp;obtain ⟨rfl,L2,hc,hb2,hs2,hf,hd⟩ := hpp;refine ⟨rfl,L2,Chg.ov hoW hc (fun k hk => ?_),hb2,hs2⟩;exact (hb.blt k (bkF_B hk)).1
theorem kn25_any (w : World) (hT : TabW w) : Calls Tryz.prog 6 #[] w (Ret w (.bool true)) := by
 have HN : Hid (∀ W,Calls Tryz.prog 35 #[.int .i64 1,.int .i64 4] W (NewPost W 1 4)) := hid (fun W => new_any 1 4 (by omega) (by omega) W);have HT := hid hT;clear hT
 go_enter Tryz.func6,Tryz.ntmps6
 go_wp2_with (first
   | (go_at_call 35
      (with_reducible refine (HN.out _).mono ?_)
      rintro _ W0 ⟨b,mb,rfl,hov,hb⟩;have HP1 : Hid (∀ W,(∃ e,W = over W0 e) → Calls Tryz.prog 36 #[.pointer (some ⟨b,0,none⟩),.int .u32 7,.agg #[.int .i64 1,.int .u64 2]] W (fun en w' => en = .returned (.int .u16 0) ∧ BkSt w b mb fS1 w')) := hid (fun W hW =>
       (put_any (bk_ov hb hW) (by obtain ⟨e,rfl⟩ := hW;obtain ⟨e',he'⟩ := hov;rw [he'];simp;omega) (TabW.ov HT.out (ov_tr hov hW)) (by simp) (by omega) (by omega) (by omega) (id := 7) (by omega) (by simp [getS,Sr.zero]) ⟨1,2⟩ (kn_wf _ _ (by omega) (by omega))).mono (fun en w' hp => by
        unfold PutB at hp;rw [show bkOf ([] : List Se) = [] from rfl,if_pos f_may1,f_put1] at hp;obtain ⟨rfl,L2,hc,hb2,hs2,hf,hd⟩ := hp;refine ⟨rfl,L2,Chg.ov (ov_tr hov hW) hc (fun k hk => ?_),hb2,hs2⟩;exact (hb.blt k (bkF_B hk)).1))
      clear hov hb)
   | (go_at_call 36
      (with_reducible refine (HP1.out _ ovA).mono ?_)
      rintro _ W1 ⟨rfl,hk1⟩;have HP2 : Hid (∀ W,(∃ e,W = over W1 e) → Calls Tryz.prog 36 #[.pointer (some ⟨b,0,none⟩),.int .u32 7,.agg #[.int .i64 3,.int .u64 5]] W (fun en w' => en = .returned (.int .u16 0) ∧ BkSt w b mb fS2 w')) := hid (bkst_put (x := ⟨3,5⟩) HT.out hk1 rfl f_may2 f_put2 (by simp) (kn_wf _ _ (by omega) (by omega)));clear HP1 hk1)
   | (go_at_call 36
      (with_reducible refine (HP2.out _ ovA).mono ?_)
      rintro _ W2 ⟨rfl,hk2⟩;have HP3 : Hid (∀ W,(∃ e,W = over W2 e) → Calls Tryz.prog 36 #[.pointer (some ⟨b,0,none⟩),.int .u32 7,.agg #[.int .i64 9,.int .u64 1]] W (fun en w' => en = .returned (.int .u16 0) ∧ BkSt w b mb fS3 w')) := hid (bkst_put (x := ⟨9,1⟩) HT.out hk2 rfl f_may3 f_put3 (by simp) (kn_wf _ _ (by omega) (by omega)));clear HP2 hk2)
   | (go_at_call 36
      (with_reducible refine (HP3.out _ ovA).mono ?_)
      rintro _ W3 ⟨rfl,hk3⟩;obtain ⟨L,ho,hb,hL⟩ := hk3;have hg : getS (bkOf L) 7 = ⟨[],k25⟩ := by rw [hL];exact f_get3
      have hT3 := TabW.ov HT.out ho;have hal : Sr.all ⟨[],k25⟩ = k25 := rfl;have O3 := hid ho;have HBt : Hid (∀ W,(∃ e,W = over W3 e) → Calls Tryz.prog 13 #[.pointer (some ⟨b,0,none⟩),.int .u32 7,.agg #[.int .i64 2,.int .i64 9]] W (Gives W fun v w' => OwnM W.heap.size w' v [⟨3,5⟩,⟨9,1⟩])) := hid (fun W hW => by
       have k := between_any (bk_ov hb hW) (TabW.ov hT3 hW) 7 hg (by rw [hal];exact k25_rise) (by simp) (by rw [hal];simp [k25]) 2 9;rw [hal,k25_betw] at k;exact k)
      have HLa : Hid (∀ W,(∃ e,W = over W3 e) → Calls Tryz.prog 8 #[.pointer (some ⟨b,0,none⟩),.int .u32 7,.int .i64 8] W (Ret W (.tuple #[.agg #[.int .i64 3,.int .u64 5],.bool true]))) := hid (fun W hW => by
       have k := flast_any (bk_ov hb hW) (TabW.ov hT3 hW) 7 hg (by rw [hal];exact k25_rise) (by simp) (by rw [hal];simp [k25]) 8;rw [hal,f_last] at k;exact k)
      have HSt : Hid (∀ W,(∃ e,W = over W3 e) → Calls Tryz.prog 10 #[.pointer (some ⟨b,0,none⟩),.int .u32 7,.agg #[.int .i64 0,.int .i64 9],.int .u64 4] W (Gives W fun v w' => ∃ u,v = .tuple #[u,.int .u16 0] ∧ OwnU W.heap.size w' u [⟨0,agC [⟨1,2⟩,⟨3,5⟩]⟩,⟨8,agC [⟨9,1⟩]⟩])) := hid (fun W hW => by
       have k := steps_any (bk_ov hb hW) (TabW.ov hT3 hW) 7 hg (by rw [hal];exact k25_rise) (by rw [hal];intro x hx;simp [k25] at hx;rcases hx with rfl | rfl | rfl <;> exact kn_wf _ _ (by omega) (by omega)) (by simp) (by rw [hal];simp [k25]) 0 9 (by omega) 4 (by omega) (by omega) (by omega)
       rw [hal] at k;refine k.mono ?_;rintro en w' ⟨h1,v,gs,rfl,hG,ho⟩;rw [k25_step hG] at ho;exact ⟨h1,_,rfl,v,rfl,ho⟩)
      clear ho hb hL hg hT3 HP3)
   | (go_at_call 13;(with_reducible refine (HBt.out _ ovA).mono ?_);rintro _ _ ⟨⟨e4,rfl⟩,v4,rfl,o4⟩;obtain ⟨a4,c4,rfl,s4⟩ := Own.slice Sm.cs_len o4;obtain ⟨b4,f4,rfl,h4,q40,q41⟩ := SlM.at_ s4 (k := 0) (by simp);simp at h4 q40;clear o4 s4 q41)
   | (go_at_call 8;(with_reducible refine (HLa.out _ ovA).mono ?_);rintro _ _ ⟨⟨e5,rfl⟩,rfl⟩)
   | (go_at_call 10
      (with_reducible refine (HSt.out _ ovA).mono ?_)
      rintro _ _ ⟨⟨e6,rfl⟩,v6,rfl,u6,rfl,o6⟩;obtain ⟨a6,c6,rfl,s6⟩ := Own.slice Bu.cs_len o6;obtain ⟨ub,uo,rfl,hub,hc0⟩ := s6.rec_ 0 _ rfl;obtain ⟨ub1,uo1,he1,_,hc1⟩ := s6.rec_ 1 _ rfl;cases he1;have u1 := hc0 1 _ rfl;have u2 := hc1 0 _ rfl;simp at hub u1 u2;clear o6 s6 hc0 hc1))
 go_ret
 exact ⟨(ovB O3.out),rfl⟩
end
section
open Go.RowKit
attribute [local go_sem] odr cdr
def BothPost (w : World) (sz : Nat) (ops : List (Nat × Sm)) (en : Ending) (w' : World) : Prop :=
 ∃ b mb L p v rr R a cap rs,en = .returned (.tuple #[.pointer (some ⟨b,0,none⟩),.pointer (some ⟨p,0,none⟩),.slice a (rs : List Rs).length cap]) ∧ (∃ e,w' = over w e) ∧ Laid w' w.heap.size b mb sz L (layS sz ops) rs ∧ Sl 2 Rs.cs w' a cap rs ∧ (∀ r ∈ rs,SlM w' r.a r.c r.l) ∧
   RbAt w.heap.size w' p sz v rr R ∧ (∀ id,getS R id = getS (layS sz ops) id) ∧ R.length ≤ 60
def BothI (W1 : World) (p sz : Nat) (S : List (Nat × Sr)) (i : Nat) (wr : World) : Prop := ∃ v rr R,RbAt W1.heap.size wr p sz v rr R ∧ RB S R i []
def BothK (W1 : World) (p sz : Nat) (S : List (Nat × Sr)) (i id : Nat) (l : List Sm) (wr : World) : Prop := ∃ v rr R,RbAt W1.heap.size wr p sz v rr R ∧ RB S R i [id] ∧ getS R id = putL sz l
theorem BothI.ov {W1 w w' : World} {p sz : Nat} {S : List (Nat × Sr)} {i : Nat} (h : BothI W1 p sz S i w) (ho : ∃ e,w' = over w e) : BothI W1 p sz S i w' := by
 obtain ⟨v,rr,R,h1,h2⟩ := h;exact ⟨v,rr,R,RbAt.ov h1 ho,h2⟩
theorem BothK.ov {W1 w w' : World} {p sz : Nat} {S : List (Nat × Sr)} {i id : Nat} {l : List Sm} (h : BothK W1 p sz S i id l w) (ho : ∃ e,w' = over w e) : BothK W1 p sz S i id l w' := by
 obtain ⟨v,rr,R,h1,h2⟩ := h;exact ⟨v,rr,R,RbAt.ov h1 ho,h2⟩
theorem BothI.start {W1 w : World} {p sz : Nat} {S : List (Nat × Sr)} (hn : (S.map (·.1)).Nodup) {i id : Nat} (hi : i < S.length) (hid : S[i].1 = id) (h : BothI W1 p sz S i w) : BothK W1 p sz S i id [] w := by
 obtain ⟨v,rr,R,h1,h2⟩ := h;refine ⟨v,rr,R,h1,h2.weak _,?_⟩;rw [← hid];exact RB.zero hn hi h2
theorem BothK.stop_ {W1 w : World} {p sz : Nat} {S : List (Nat × Sr)} {i id : Nat} (hi : i < S.length) (hid : S[i].1 = id) {l : List Sm} (hl : S[i].2 = putL sz l) (h : BothK W1 p sz S i id l w) : BothI W1 p sz S (i + 1) w := by
 obtain ⟨v,rr,R,h1,h2,h3⟩ := h;subst hid;exact ⟨v,rr,R,h1,RB.next hi h2 (by rw [h3,hl])⟩
theorem putL_ne (sz : Nat) (l : List Sm) : ∀ c ∈ (putL sz l).cl,c ≠ [] := by
 have : ∀ (l : List Sm) (s : Sr),(∀ c ∈ s.cl,c ≠ []) → ∀ c ∈ (l.foldl (fun s x => s.put sz x) s).cl,c ≠ [] := by
  intro l
  induction l with
  | nil => intro s h;exact h
  | cons x l ih =>
   intro s h;refine ih _ ?_;show ∀ c ∈ (s.put sz x).cl,c ≠ []
   unfold Sr.put;split
   · intro c hc;rcases List.mem_append.1 hc with h1 | h1
     · exact h c h1
     · rw [List.mem_singleton] at h1;subst h1;simp
   · exact h
 exact this l Sr.zero (by simp [Sr.zero])
theorem cl_le2 {s : Sr} (h : ∀ c ∈ s.cl,c ≠ []) : s.cl.length ≤ s.all.length := by
 have : ∀ l : List (List Sm),(∀ c ∈ l,c ≠ []) → l.length ≤ l.flatten.length := by
  intro l
  induction l with
  | nil => intro _;simp
  | cons c l ih =>
   intro h;have h1 := ih (fun x hx => h x (by simp [hx]));have h2 : 0 < c.length := List.length_pos_iff.2 (h c (by simp));simp only [List.length_cons,List.flatten_cons,List.length_append];omega
 have h1 := this s.cl h;unfold Sr.all;rw [List.length_append];omega
theorem both_put {W1 w : World} {p sz : Nat} {S : List (Nat × Sr)} (hn : (S.map (·.1)).Nodup) (hsl : S.length ≤ 60) {i id : Nat} (hi : i < S.length) (hid_ : S[i].1 = id) {l : List Sm} {x : Sm} (hl : l.length ≤ 60) (hcl : (putL sz l).cl.length ≤ 60) (hm : ∀ l' y,l = l' ++ [y] → y.t < x.t) (ho : ∃ e,w = over W1 e) (h : BothK W1 p sz S i id l w) :
    Calls Tryz.prog 22 #[.pointer (some ⟨p,0,none⟩),.int .u32 (id : Nat),.agg #[.int .i64 x.t,.int .u64 (x.v : Nat)]] w fun en w' => en = .returned (.int .i64 0) ∧ (∃ e,w' = over W1 e) ∧ BothK W1 p sz S i id (l ++ [x]) w' := by
  obtain ⟨v,rr,R,h1,h2,h3⟩ := h;have hlen : rr.length ≤ 61 := by
   have := h2.len (by omega);have := h1.len;simp at *;omega
  have hle : W1.heap.size ≤ w.heap.size := by obtain ⟨e,rfl⟩ := ho;simp
  refine (rbput_any h1 hle id (.inl (by omega)) (by omega) h3 (by rw [putL_all];omega) (by omega) x (by rw [putL_all];exact hm)).mono ?_;rintro en w' ⟨rfl,v',rr',hc,hr⟩;refine ⟨rfl,Chg.ov ho hc (fun k hk => ?_),v',rr',_,hr,?_,?_⟩
  · rcases List.mem_cons.1 hk with rfl | hk
    · exact h1.lo
    · exact (Own.lt h1.row (by simpa using hk)).1
  · subst hid_;exact RB.put hn hi h2 _
  · rw [rset_get h1.sort,putL_snoc]
theorem both_any (size : Int) (hz : -9223372036854775808 ≤ size ∧ size ≤ 9223372036854775807) (xs : List Opr) (hx : ∀ o ∈ xs,o.wf) (hl : xs.length ≤ 60) (a : Option Addr) (cap : Nat) (w : World) (hT : TabW w) (hs : SlO w a cap xs) :
    Calls Tryz.prog 7 #[.int .i64 size,.slice a xs.length cap] w (BothPost w (lsz size) (opsL xs)) := by
  have HLay := hid (fun W (h1 : TabW W) (h2 : SlO W a cap xs) => layB_any size hz xs hx hl a cap W h1 h2);have hsz1 := lsz_ok size;have hsi : 1 + max size 0 % 24 = (lsz size : Int) := by
   unfold lsz;omega
  obtain ⟨sz,hsz⟩ : ∃ sz,lsz size = sz := ⟨_,rfl⟩;rw [hsz] at HLay hsz1 hsi ⊢;have HN : Hid (∀ W,Calls Tryz.prog 21 #[.int .i64 64,.int .i64 (sz : Nat)] W _) := hid (fun W => rnewb_any sz hsz1 W);have HSI := hid hsi;have hol : (opsL xs).length ≤ 60 := by simp [opsL];exact hl
  obtain ⟨ops,hops⟩ : ∃ ops,opsL xs = ops := ⟨_,rfl⟩;rw [hops] at HLay hol ⊢;have HPut := hid (fun (l : List (Nat × Sm)) => lay_put (sz := sz) l);have HRise := hid (fun (l : List (Nat × Sm)) => all_rise (sz := sz) l);clear hx hsz hsi hops
  go_enter Tryz.func7,Tryz.ntmps7
  go_wp2_with (first
    | (go_at_call 20
       (with_reducible refine (HLay.out _ (by exact tabA hT) (by exact slA hs)).mono ?_)
       rintro _ W1 ⟨b,mb,L,al,cl,rs,rfl,⟨e1,hW1⟩,hb,he,hsl,hrows,hmap⟩;have O1 : Hid (∃ e,W1 = over w e) := hid (by rw [hW1];exact ovA);have hLd := laid_of hsz1.1 hol hb he hmap;have HL := hid hLd;have HSL := hid hsl;have HRW := hid hrows;have hrl : rs.length ≤ 60 := by rw [hLd.len];exact hLd.I.len
       clear hW1 hb he hmap hLd hsl hrows)
    | (rw [HSI.out]
       go_at_call 21
       (with_reducible refine (HN.out _).mono ?_)
       rintro _ W2 ⟨p,rfl,⟨e2,hW2⟩,hrb⟩;have O2 : Hid (∃ e,W2 = over W1 e) := hid (by rw [hW2];exact ovA);have HB0 : Hid (BothI W1 p sz (layS sz ops) 0 W2) := hid ⟨_,_,_,hrb,RB.nil _⟩;clear hW2 hrb))
  go_loopw [10,11] (fun i _ wr => ∃ k : Nat,k ≤ rs.length ∧ i = .int .i64 (k : Nat) ∧ BothI W1 p sz (layS sz ops) k wr ∧ Ov W1 wr) (fun i _ _ => rs.length - (intOf i).toNat)
  case atStart => exact ⟨0,Nat.zero_le _,rfl,HB0.out,(ovB O2.out)⟩
  case round =>
   obtain ⟨k,hk,rfl,hB,⟨e0,rfl⟩⟩ := hrel;have HB := hid hB;clear hB;by_cases hlt : k < rs.length
   · obtain ⟨bl,off,rfl,hbl,x0,x1⟩ := SlR.at_ HSL.out hlt;obtain ⟨h2,h3,h4⟩ := HL.out.at_ k hlt;have hrow := HRW.out _ (List.getElem_mem hlt);have hpl := HPut.out ops _ (List.getElem_mem h2);have hri := HRise.out ops _ (List.getElem_mem h2);have hal := (HL.out.I.all _ (List.getElem_mem h2)).1;rw [← h4] at hpl hri hal;have HI := HL.out.I;have hdl : decide (k < rs.length) = true := decide_eq_true hlt;obtain ⟨r,hr⟩ : ∃ r,rs[k]'hlt = r := ⟨_,rfl⟩;rw [hr] at x0 x1 h3 h4 hrow hpl hri hal;have HS := hid (BothI.start HI.ids h2 h3.symm HB.out);have HE : Hid (∀ W,BothK W1 p sz (layS sz ops) k r.id r.l W → BothI W1 p sz (layS sz ops) (k + 1) W) := hid (fun W hW => BothK.stop_ h2 h3.symm hpl hW);obtain ⟨id,hid0⟩ : ∃ id,r.id = id := ⟨_,rfl⟩;rw [hid0] at x0 h3 HS HE;have HPT : Hid (∀ (j : Nat) (hj : j < r.l.length) W,(∃ e,W = over W1 e) → BothK W1 p sz (layS sz ops) k id (r.l.take j) W → Calls Tryz.prog 22 #[.pointer (some ⟨p,0,none⟩),.int .u32 (id : Nat),.agg #[.int .i64 r.l[j].t,.int .u64 (r.l[j].v : Nat)]] W fun en w' => en = .returned (.int .i64 0) ∧ (∃ e,w' = over W1 e) ∧ BothK W1 p sz (layS sz ops) k id (r.l.take (j + 1)) w') := hid (fun j hj W hW hK => by
      have hcl : (putL sz (r.l.take j)).cl.length ≤ 60 := by
       have h5 := putL_ne sz (r.l.take j);have h6 := cl_le2 h5;rw [putL_all] at h6;simp at h6;omega
      have := both_put (x := r.l[j]) HI.ids (by have := HL.out.len;omega) h2 h3.symm (by simp;omega) hcl (fun l' y he => by
       have hjl : l'.length + 1 = j := by have := congrArg List.length he;simp at this;omega
       have hy : r.l[l'.length]? = some y := by
        have := congrArg (fun l => l[l'.length]?) he;simp at this;rw [List.getElem?_take_of_lt (by omega)] at this;exact this
       obtain ⟨hy1,hy2⟩ := List.getElem?_eq_some_iff.1 hy;rw [← hy2];exact (List.pairwise_iff_getElem.1 hri) _ _ hy1 hj (by omega)) hW hK
      rw [List.take_succ_eq_append_getElem hj];exact this)
     obtain ⟨l,hll⟩ : ∃ l,r.l = l := ⟨_,rfl⟩;rw [hll] at x1 HPT HE hal;have HRO : Hid (SlM W1 r.a r.c l) := hid (by rw [← hll];exact hrow);clear hpl hri h4 hrow hr hid0 h3 hll HI;go_wp2
     go_loopw [11] (fun j wr => ∃ m : Nat,m ≤ l.length ∧ j = .int .i64 (m : Nat) ∧ BothK W1 p sz (layS sz ops) k id (l.take m) wr ∧ Ov W1 wr) (fun j _ => l.length - (intOf j).toNat)
     case atStart => exact ⟨0,Nat.zero_le _,rfl,HS.out,ovA⟩
     case round =>
      obtain ⟨m,hm,rfl,hK,hov⟩ := hrel;have O3 : Hid (∃ e,wr = over W1 e) := hid hov;obtain ⟨e3,rfl⟩ := hov;have HK := hid hK;clear hK;by_cases hml : m < l.length
      · obtain ⟨cb,co,hca,hcb,q0,q1⟩ := SlM.at_ HRO.out hml;rw [hca] at x1;have hdm : decide (m < l.length) = true := decide_eq_true hml;have HC := hid (HPT.out m hml);obtain ⟨y,hy⟩ : ∃ y,l[m]'hml = y := ⟨_,rfl⟩;rw [hy] at HC q0 q1;clear hca hy;go_wp2;refine M2.wrm [14] 14 (by kernel_rfl) (by kernel_rfl) (by decide) ?_;simp only [M2.td];with_reducible refine M2.mlq 14 (by kernel_rfl) ?_
        simp only [M2.td];repeat (go_big_quiet_step (fail))
        refine wpQuiet_nil ?_;refine M2.mln ?_;refine M2.mle (by decide) ?_;go_wp2_with ((go_at_call 22;(with_reducible refine (HC.out _ ovA (BothK.ov HK.out ovA)).mono ?_);rintro _ W5 ⟨rfl,ho5,hk5⟩;have O5 := hid ho5;have K5 := hid hk5;clear ho5 hk5))
        refine M2.MixQ.mk trivial ?_;refine M2.mln ?_;go_wp2;go_roundw
        case rel => exact ⟨m + 1,by omega,by go_num,K5.out,O5.out⟩
        case measure => (simp [intOf];try omega)
      · obtain rfl : m = l.length := by omega
        have HK2 : Hid (BothI W1 p sz (layS sz ops) (k + 1) (over W1 e3)) := hid (HE.out _ (by have := HK.out;rwa [List.take_length] at this));go_wp2;go_roundw
        case rel => exact ⟨k + 1,by omega,by go_num,HK2.out,ovA⟩
        case measure => (simp [intOf];try omega)
   · obtain rfl : k = rs.length := by omega
     go_wp2
     go_ret3
     obtain ⟨v,rr,R,hb1,hb2⟩ := HB.out;have ho4 : ∃ e,over W1 e0 = over W1 e := ⟨_,rfl⟩;have hle : w.heap.size ≤ W1.heap.size := by obtain ⟨z,hz⟩ := O1.out;rw [hz];simp
     refine ⟨b,mb,L,p,v,rr,R,al,cl,rs,rfl,(ovB O1.out),HL.out.ov ho4,Sl.over HSL.out e0,fun r hr => Sl.over (HRW.out r hr) e0,?_,fun id => RB.all HL.out.I.ids HL.out.len hb2 id,by have h1 := hb2.len (Nat.le_of_eq HL.out.len);have h2 := HL.out.I.len;have h3 := HL.out.len;simp at h1;omega⟩;exact ⟨hb1.blk,Own.mono hb1.row hle,hb1.ne,by have := hb1.lo;omega,hb1.ser,hb1.is_,hb1.sort⟩
end
end Go.Proofs.YtoolooffpphmdaaGreatDoor
