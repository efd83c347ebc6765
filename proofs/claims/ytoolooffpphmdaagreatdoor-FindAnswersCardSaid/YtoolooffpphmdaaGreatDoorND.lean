import Derived.Test.YtoolooffpphmdaaGreatDoorKC
import Derived.Test.YtoolooffpphmdaaGreatDoorKD
import Derived.Test.YtoolooffpphmdaaGreatDoorKB
import Derived.Test.YtoolooffpphmdaaGreatDoorKA
import Derived.Test.YtoolooffpphmdaaGreatDoorRgC
import Derived.Test.YtoolooffpphmdaaGreatDoorHB
namespace Go.Proofs.YtoolooffpphmdaaGreatDoor
set_option linter.unusedVariables false
set_option linter.unusedSimpArgs false
set_option maxRecDepth 100000
set_option maxHeartbeats 4000000
section
open Go.RowKit
attribute [local go_sem] odr cdr
theorem betw_take {l : List Sm} {f t : Int} {k : Nat} (hk : k < l.length) : betw (l.take (k + 1)) f t = betw (l.take k) f t ++ (if f ≤ l[k].t ∧ l[k].t ≤ t then [l[k]] else []) := by
 unfold betw;rw [List.take_succ_eq_append_getElem hk,List.filter_append]
 congr 1
 by_cases h : f ≤ l[k].t ∧ l[k].t ≤ t
 · simp [h]
 · rw [if_neg h,List.filter_eq_nil_iff];intro x hx;simp at hx;subst hx;simp only [Bool.and_eq_true,decide_eq_true_eq];exact h
theorem betw_len (l : List Sm) (f t : Int) : (betw l f t).length ≤ l.length := List.length_filter_le _ _
theorem rbetween_any {base : Nat} {w : World} {p sz : Nat} {v : Value} {rs : List Rr} {R : List (Nat × Sr)} (h : RbAt base w p sz v rs R) (id : Nat) (hlen2 : rs.length ≤ 1000000) {s : Sr} (hs : getS R id = s) (hall : s.all.length ≤ 100000) (hcl : s.cl.length ≤ 100000) (f t : Int) :
    Calls Tryz.prog 14 #[.pointer (some ⟨p,0,none⟩),.int .u32 (id : Nat),.agg #[.int .i64 f,.int .i64 t]] w (Gives w fun v w' => OwnM w.heap.size w' v (betw s.all f t)) := by
  have HS := hid (fun W (hW : ∃ e,W = over w e) => rsamples_any (RbAt.ov h hW) id hlen2 hs hall hcl);obtain ⟨xs,hxs⟩ : ∃ xs,s.all = xs := ⟨_,rfl⟩;rw [hxs] at HS hall ⊢;clear h hlen2 hs hcl hxs
  go_enter Tryz.func14,Tryz.ntmps14
  go_wp2_with (
    (go_at_call 38)
    (with_reducible refine (HS.out _ ovA).mono ?_)
    rintro _ w1 ⟨⟨e1,hw1⟩,v2,rfl,o2⟩;have O1 : Hid (∃ e,w1 = over w e) := hid (by rw [hw1];exact ovA);have B1 : Hid (Blk w1 w.heap.size [.int .i64 f,.int .i64 t] 25) := hid (by rw [hw1];exact Blk.on (Blk.new' rfl) _);obtain ⟨a2,c2,rfl,s2⟩ := Own.slice Sm.cs_len o2;have S2 := hid s2;have b0 := B1.out.cell 0 rfl;have b1 := B1.out.cell 1 rfl;have bl := B1.out.lt;clear hw1 o2 s2)
  go_loopw [7,9] (fun v i wr => ∃ k : Nat,k ≤ xs.length ∧ i = .int .i64 (k : Nat) ∧ OwnM w1.heap.size wr v (betw (xs.take k) f t) ∧ Ov w1 wr) (fun _ i _ => xs.length - (intOf i).toNat)
  case atStart => exact ⟨0,Nat.zero_le _,rfl,Own.nil _,ovA⟩
  case round =>
   obtain ⟨k,hk,rfl,hown,⟨e0,rfl⟩⟩ := hrel;obtain ⟨av,cv,rfl,_⟩ := Own.slice Sm.cs_len hown;have HOW := hid hown;clear hown;by_cases hlt : k < xs.length
   · have hbl := betw_len (xs.take k) f t;rw [List.length_take] at hbl;have htk := betw_take (f := f) (t := t) hlt;obtain ⟨cb,co,rfl,hcb,q0,q1⟩ := SlM.at_ S2.out hlt;obtain ⟨x,hx⟩ : ∃ x,xs[k]'hlt = x := ⟨_,rfl⟩;rw [hx] at q0 q1 htk;have hd : decide (k < xs.length) = true := decide_eq_true hlt;obtain ⟨pre,hpre⟩ : ∃ z,betw (xs.take k) f t = z := ⟨_,rfl⟩;rw [hpre] at HOW hbl htk ⊢;by_cases h1 : f ≤ x.t
     · have hd1 : decide (f ≤ x.t) = true := decide_eq_true h1;by_cases h2 : x.t ≤ t
       · have hd2 : decide (x.t ≤ t) = true := decide_eq_true h2;rw [if_pos ⟨h1,h2⟩] at htk;have HTK := hid htk;clear hx htk hpre h1 h2;go_wp2;refine wro (by kernel_rfl) (by kernel_rfl) ?_;repeat (go_big_quiet_step ((fail)))
         refine wpQuiet_nil ?_;intro _ hw';obtain ⟨nq,rfl⟩ := hw';go_wp2_with (at_builtin;refine wpList_append sample_elem Sm.cs_len Sm.cs_one rfl (.tmp 37) (.tmp 42) rfl (B := w1) (xs := [x]) HOW.out rfl rfl ovA ovA (by exact asA) (by exact asA) (by (repeat with_reducible refine Sl.drew ?_);exact Sl.one_new (y := x) (by simp;try omega)) (by exact lnA) (by exact lnB) ?_;intro v8 x8 ho8 _ _;have HO8 := hid ho8;clear ho8)
         go_roundw
         case rel => exact ⟨k + 1,by omega,by go_num,by rw [HTK.out];exact HO8.out,ovA⟩
         case measure => (simp [intOf];try omega)
       · have hd2 : decide (x.t ≤ t) = false := decide_eq_false h2;rw [if_neg (fun hh => h2 hh.2),List.append_nil] at htk;have HTK := hid htk;clear hx htk hpre h1 h2;go_wp2;refine wro (by kernel_rfl) (by kernel_rfl) ?_;repeat (go_big_quiet_step ((fail)))
         refine wpQuiet_nil ?_;intro _ hw';obtain ⟨nq,rfl⟩ := hw';go_wp2;go_roundw
         case rel => exact ⟨k + 1,by omega,by go_num,by rw [HTK.out];exact (by exact ownA HOW.out),ovA⟩
         case measure => (simp [intOf];try omega)
     · have hd1 : decide (f ≤ x.t) = false := decide_eq_false h1;rw [if_neg (fun hh => h1 hh.1),List.append_nil] at htk;have HTK := hid htk;clear hx htk hpre h1;go_wp2;refine wro (by kernel_rfl) (by kernel_rfl) ?_;repeat (go_big_quiet_step ((fail)))
       refine wpQuiet_nil ?_;intro _ hw';obtain ⟨nq,rfl⟩ := hw';go_wp2;go_roundw
       case rel => exact ⟨k + 1,by omega,by go_num,by rw [HTK.out];exact (by exact ownA HOW.out),ovA⟩
       case measure => (simp [intOf];try omega)
   · obtain rfl : k = xs.length := by omega
     rw [List.take_length] at *;go_wp2;go_ret
     refine ⟨(ovB O1.out),_,rfl,Own.mono HOW.out ?_⟩;obtain ⟨z,hz⟩ := O1.out;rw [hz];simp
theorem rlast_any {base : Nat} {w : World} {p sz : Nat} {v : Value} {rs : List Rr} {R : List (Nat × Sr)} (h : RbAt base w p sz v rs R) (id : Nat) (hlen2 : rs.length ≤ 1000000) {s : Sr} (hs : getS R id = s) (hall : s.all.length ≤ 100000) (hcl : s.cl.length ≤ 100000) (hr : RiseL s.all) (t : Int) :
    Calls Tryz.prog 9 #[.pointer (some ⟨p,0,none⟩),.int .u32 (id : Nat),.int .i64 t] w (Ret w (.tuple #[.agg #[.int .i64 (lastS s.all t).1.t,.int .u64 ((lastS s.all t).1.v : Nat)],.bool (lastS s.all t).2])) := by
  have HS := hid (fun W (hW : ∃ e,W = over w e) => rsamples_any (RbAt.ov h hW) id hlen2 hs hall hcl);obtain ⟨xs,hxs⟩ : ∃ xs,s.all = xs := ⟨_,rfl⟩;rw [hxs] at HS hall hr ⊢;have hbn := behindN_le xs t;have hbi := fun (k : Nat) (hk : k < xs.length) => behind_iff hr (t := t) hk;have HL := hid (show lastS xs t = _ from rfl);unfold lastS at HL;obtain ⟨n,hn⟩ : ∃ n,behindN xs t = n := ⟨_,rfl⟩;have HLx : Hid ((∀ h0 : 0 < n,∀ hl : n - 1 < xs.length,lastS xs t = (xs[n - 1],true)) ∧ (n = 0 → lastS xs t = (⟨0,0⟩,false))) := hid ⟨fun h0 hl => by unfold lastS;simp [hn,h0],fun h0 => by unfold lastS;simp [hn,h0]⟩;rw [hn] at hbn hbi;obtain ⟨y,hy⟩ : ∃ y,lastS xs t = y := ⟨_,rfl⟩;rw [hy] at HLx ⊢;have HBI := hid hbi;clear h hlen2 hs hcl hxs hr hn hbi hy HL;obtain ⟨⟨yt,yv⟩,yb⟩ := y
  go_enter Tryz.func9,Tryz.ntmps9
  go_wp2_with (
    (go_at_call 38)
    (with_reducible refine (HS.out _ ovA).mono ?_)
    rintro _ w1 ⟨⟨e1,hw1⟩,v2,rfl,o2⟩;have O1 : Hid (∃ e,w1 = over w e) := hid (by rw [hw1];exact ovA);have B1 : Hid (Blk w1 w.heap.size [.int .i64 0,.int .u64 0] 34) := hid (by rw [hw1];exact Blk.on (Blk.new' rfl) _);obtain ⟨a2,c2,rfl,s2⟩ := Own.slice Sm.cs_len o2;have S2 := hid s2;clear hw1 o2 s2)
  go_loopw [9] (fun i wr => ∃ k : Nat,n ≤ k ∧ k ≤ xs.length ∧ i = .int .i64 ((k : Int) - 1) ∧ Ov w1 wr) (fun i _ => (intOf i + 1).toNat)
  case atStart => exact ⟨xs.length,hbn,Nat.le_refl _,rfl,ovA⟩
  case round =>
   obtain ⟨k,hnk,hk,rfl,⟨e0,rfl⟩⟩ := hrel;have b0 := B1.out.cell 0 rfl;have b1 := B1.out.cell 1 rfl;have bl := B1.out.lt;have bf : ∀ j,w1.frozen? ⟨w.heap.size,j,none⟩ = false := fun j => B1.out.free j;by_cases h0 : k = 0
   · subst h0;obtain rfl : n = 0 := by omega
     obtain ⟨e1,e2⟩ := Prod.mk.inj (HLx.out.2 rfl);simp only [Sm.mk.injEq] at e1;obtain ⟨rfl,rfl⟩ := e1;subst e2;have O2 : Hid (∃ e,(over w1 e0) = over w e) := hid (ovB O1.out);clear HLx hnk;go_wp2
     (try simp only [Exit.inBlock,Exit.then])
     refine bodyPost_ret (v := ?rv110) ?rh110 rfl ?rp110
     case rh110 => (simp only [results,show Tryz.f9.results = #[.cell 6 34,.tmp 7] from rfl];go_simp;rfl)
     exact ⟨(ovB O1.out),rfl⟩
   · obtain ⟨m,rfl⟩ : ∃ m,k = m + 1 := ⟨k - 1,by omega⟩;have hlt : m < xs.length := by omega
     obtain ⟨cb,co,rfl,hcb,q0,q1⟩ := SlM.at_ S2.out hlt;have hi := HBI.out m hlt;have hi2 : ((m + 1 : Nat) : Int) - 1 = (m : Int) := by omega
     rw [hi2];have hd0 : decide ((0 : Int) ≤ (m : Int)) = true := decide_eq_true (by omega);by_cases hm : m < n
     · obtain rfl : n = m + 1 := by omega
       have e := HLx.out.1 (by omega) (by omega);have hl := hi.2 hm;simp only [Nat.add_sub_cancel] at e;obtain ⟨e1,e2⟩ := Prod.mk.inj e;rw [← e1] at q0 q1 hl;simp only at q0 q1 hl;subst e2;have hd : decide (yt ≤ t) = true := decide_eq_true hl;clear HLx e e1 hi hm hl;go_wp2
       (try simp only [Exit.inBlock,Exit.then])
       refine bodyPost_ret (v := ?rv111) ?rh111 rfl ?rp111
       case rh111 => (simp only [results,show Tryz.f9.results = #[.cell 6 34,.tmp 7] from rfl];go_simp;rfl)
       exact ⟨(ovB O1.out),rfl⟩
     · obtain ⟨x,hx⟩ : ∃ x,xs[m]'hlt = x := ⟨_,rfl⟩;rw [hx] at q0 q1 hi;have hd : decide (x.t ≤ t) = false := decide_eq_false (fun h => hm (hi.1 h));clear hx hi;go_wp2;go_roundw
       case rel => exact ⟨m,by omega,by omega,by go_num,ovA⟩
       case measure => (simp [intOf];try omega)
end
section
open Go.RowKit
attribute [local go_sem] odr cdr
theorem rone_any (x : Sm) (w : World) : Calls Tryz.prog 43 #[.agg #[.int .i64 x.t,.int .u64 (x.v : Nat)]] w (Ret w (Ag.v ⟨1,x,x,x.v,x.v,0,x.v⟩)) := by
 go_enter Tryz.func43,Tryz.ntmps43;go_wp2
 (try simp only [Exit.inBlock,Exit.then])
 refine bodyPost_ret (v := ?rv112) ?rh112 rfl ?rp112
 case rh112 => (simp only [results,show Tryz.f43.results = #[.cell 2 85] from rfl];go_simp;rfl)
 exact ⟨ovA,rfl⟩
theorem rjoin_any (a b : Ag) (h : AgOk a b) (w : World) : Calls Tryz.prog 42 #[a.v,b.v] w (Ret w (.tuple #[(agJ a b).v,.int .i64 0])) := by
 obtain ⟨an,⟨aft,afv⟩,⟨alt,alv⟩,amn,amx,ahi,alo⟩ := a;obtain ⟨bn,⟨bft,bfv⟩,⟨blt,blv⟩,bmn,bmx,bhi,blo⟩ := b;obtain ⟨h1,⟨h2,h3⟩,h4,h5⟩ := h;simp only at h1 h2 h3 h4 h5;by_cases ha : an = 0
 · subst ha;have e : agJ ⟨0,⟨aft,afv⟩,⟨alt,alv⟩,amn,amx,ahi,alo⟩ ⟨bn,⟨bft,bfv⟩,⟨blt,blv⟩,bmn,bmx,bhi,blo⟩ = ⟨bn,⟨bft,bfv⟩,⟨blt,blv⟩,bmn,bmx,bhi,blo⟩ := rfl;rw [e];clear e
   go_enter Tryz.func42,Tryz.ntmps42;go_wp2
   (try simp only [Exit.inBlock,Exit.then])
   refine bodyPost_ret (v := ?rv113) ?rh113 rfl ?rp113
   case rh113 => (simp only [results,show Tryz.f42.results = #[.cell 4 85,.tmp 5] from rfl];go_simp;rfl)
   exact ⟨ovA,rfl⟩
 · have ha2 : ((an : Int) == 0) = false := by simpa using ha
   by_cases hb : bn = 0
   · subst hb;have e : agJ ⟨an,⟨aft,afv⟩,⟨alt,alv⟩,amn,amx,ahi,alo⟩ ⟨0,⟨bft,bfv⟩,⟨blt,blv⟩,bmn,bmx,bhi,blo⟩ = ⟨an,⟨aft,afv⟩,⟨alt,alv⟩,amn,amx,ahi,alo⟩ := by unfold agJ;rw [if_neg ha,if_pos rfl]
     rw [e];clear e h5
     go_enter Tryz.func42,Tryz.ntmps42;go_wp2
     (try simp only [Exit.inBlock,Exit.then])
     refine bodyPost_ret (v := ?rv114) ?rh114 rfl ?rp114
     case rh114 => (simp only [results,show Tryz.f42.results = #[.cell 4 85,.tmp 5] from rfl];go_simp;rfl)
     exact ⟨ovA,rfl⟩
   · have hb2 : ((bn : Int) == 0) = false := by simpa using hb
     have ho : alt < bft := by omega
     have hd : decide (bft ≤ alt) = false := decide_eq_false (by omega);have e : agJ ⟨an,⟨aft,afv⟩,⟨alt,alv⟩,amn,amx,ahi,alo⟩ ⟨bn,⟨bft,bfv⟩,⟨blt,blv⟩,bmn,bmx,bhi,blo⟩ = ⟨an + bn,⟨aft,afv⟩,⟨blt,blv⟩,min amn bmn,max amx bmx,ahi + bhi + (alo + blo) / 18446744073709551616,(alo + blo) % 18446744073709551616⟩ := by unfold agJ;rw [if_neg ha,if_neg hb]
     rw [e];obtain ⟨lo,hlo⟩ : ∃ x,(alo + blo) % 18446744073709551616 = x := ⟨_,rfl⟩;obtain ⟨c,hc⟩ : ∃ x,(alo + blo) / 18446744073709551616 = x := ⟨_,rfl⟩;obtain ⟨mn,hmn⟩ : ∃ x,min amn bmn = x := ⟨_,rfl⟩;obtain ⟨mx,hmx⟩ : ∃ x,max amx bmx = x := ⟨_,rfl⟩;have hmn2 : min (amn : Int) (bmn : Int) = (mn : Int) := by omega
     have hmx2 : max (amx : Int) (bmx : Int) = (mx : Int) := by omega
     rw [hlo,hc,hmn,hmx];have hn : IntKind.u64.wrap ((an : Int) + (bn : Int)) = (((an + bn : Nat)) : Int) := by rw [IntKind.wrap_u64];omega
     have hw1 : IntKind.u64.wrap ((alo : Int) + (blo : Int)) = (lo : Int) := by rw [IntKind.wrap_u64];omega
     have hw2 : IntKind.u64.wrap ((ahi : Int) + (bhi : Int)) = ((ahi + bhi : Nat) : Int) := by rw [IntKind.wrap_u64];omega
     have hlc : (lo < alo ∧ c = 1) ∨ (¬ lo < alo ∧ c = 0) := by omega
     clear hmn hmx h5 e;obtain ⟨hh,hhe⟩ : ∃ x,ahi + bhi = x := ⟨_,rfl⟩;obtain ⟨nn,hne⟩ : ∃ x,an + bn = x := ⟨_,rfl⟩;rw [hhe] at hw2 h4 ⊢;rw [hne] at hn ⊢;clear hhe hne;have hlo2 : lo < 18446744073709551616 := by omega
     rcases hlc with ⟨hl,rfl⟩ | ⟨hl,rfl⟩
     · have hd2 : decide (lo < alo) = true := decide_eq_true hl;have hw3 : IntKind.u64.wrap ((hh : Int) + 1) = ((hh + 1 : Nat) : Int) := by rw [IntKind.wrap_u64];omega
       clear hlo hc hl
       go_enter Tryz.func42,Tryz.ntmps42;go_wp2
       (try simp only [Exit.inBlock,Exit.then])
       refine bodyPost_ret (v := ?rv115) ?rh115 rfl ?rp115
       case rh115 => (simp only [results,show Tryz.f42.results = #[.cell 4 85,.tmp 5] from rfl];go_simp;rfl)
       exact ⟨ovA,rfl⟩
     · have hd2 : decide (lo < alo) = false := decide_eq_false hl;rw [Nat.add_zero];clear hlo hc hl
       go_enter Tryz.func42,Tryz.ntmps42;go_wp2
       (try simp only [Exit.inBlock,Exit.then])
       refine bodyPost_ret (v := ?rv116) ?rh116 rfl ?rp116
       case rh116 => (simp only [results,show Tryz.f42.results = #[.cell 4 85,.tmp 5] from rfl];go_simp;rfl)
       exact ⟨ovA,rfl⟩
end
section
open Go.RowKit
structure RstI (fr : Int) (st : Nat) (l : List Sm) (k : Nat) (gs : List (Nat × List Sm)) : Prop where
 grp : Grp fr st gs
 flat : (gs.map (·.2)).flatten = l.take k
theorem RstI.nil (fr : Int) (st : Nat) (l : List Sm) : RstI fr st l 0 [] := ⟨⟨by simp,by simp,by simp⟩,by simp⟩
theorem RstI.mem {fr : Int} {st : Nat} {l : List Sm} {k : Nat} {gs : List (Nat × List Sm)} (h : RstI fr st l k gs) {g : Nat × List Sm} (hg : g ∈ gs) {y : Sm} (hy : y ∈ g.2) : y ∈ l.take k := by
 rw [← h.flat];exact List.mem_flatten.2 ⟨g.2,List.mem_map.2 ⟨g,hg,rfl⟩,hy⟩
theorem RstI.le {fr : Int} {st : Nat} {l : List Sm} (hr : RiseL l) {k : Nat} {gs : List (Nat × List Sm)} (h : RstI fr st l k gs) (hk : k < l.length) {g : Nat × List Sm} (hg : g ∈ gs) : g.1 ≤ keyB fr st l[k] := by
 obtain ⟨y,hy⟩ := List.exists_mem_of_ne_nil _ (h.grp.ne g hg);have h1 := h.mem hg hy;obtain ⟨j,hj,rfl⟩ := List.mem_take_iff_getElem.1 h1;rw [← h.grp.key g hg _ hy];have := (List.pairwise_iff_getElem.1 hr) j k (by omega) hk (by omega);exact keyB_mono (by omega)
theorem RstI.new_ {fr : Int} {st : Nat} {l : List Sm} (hr : RiseL l) {k : Nat} {gs : List (Nat × List Sm)} (h : RstI fr st l k gs) (hk : k < l.length) {K : Nat} (hK : keyB fr st l[k] = K) (hx : ∀ gs' g,gs = gs' ++ [g] → g.1 ≠ K) : RstI fr st l (k + 1) (gs ++ [(K,[l[k]])]) := by
 refine ⟨⟨fun g hg => ?_,fun g hg x hxm => ?_,?_⟩,?_⟩
 · rcases List.mem_append.1 hg with h1 | h1
   · exact h.grp.ne g h1
   · rw [List.mem_singleton] at h1;subst h1;simp
 · rcases List.mem_append.1 hg with h1 | h1
   · exact h.grp.key g h1 x hxm
   · rw [List.mem_singleton] at h1;subst h1;simp at hxm;subst hxm;exact hK
 · refine List.pairwise_append.2 ⟨h.grp.sort,by simp,fun a ha b hb => ?_⟩;rw [List.mem_singleton] at hb;subst hb;rcases List.eq_nil_or_concat gs with rfl | ⟨gs',g,rfl⟩
   · simp at ha
   · rw [List.concat_eq_append] at *;have h1 := hx gs' g rfl;have h2 := h.le hr hk (g := g) (by simp);rw [hK] at h2;rcases List.mem_append.1 ha with h3 | h3
     · have h4 := (List.pairwise_append.1 h.grp.sort).2.2 a h3 g (by simp);show a.1 < K
       omega
     · rw [List.mem_singleton] at h3;subst h3;show a.1 < K
       omega
 · rw [List.map_append,List.flatten_append,h.flat,List.take_succ_eq_append_getElem hk];simp
theorem RstI.more {fr : Int} {st : Nat} {l : List Sm} {k : Nat} {gs : List (Nat × List Sm)} {K : Nat} {g : List Sm} (h : RstI fr st l k (gs ++ [(K,g)])) (hk : k < l.length) (hK : keyB fr st l[k] = K) : RstI fr st l (k + 1) (gs ++ [(K,g ++ [l[k]])]) := by
 refine ⟨⟨fun x hx => ?_,fun x hx y hy => ?_,?_⟩,?_⟩
 · rcases List.mem_append.1 hx with h1 | h1
   · exact h.grp.ne x (by simp [h1])
   · rw [List.mem_singleton] at h1;subst h1;simp
 · rcases List.mem_append.1 hx with h1 | h1
   · exact h.grp.key x (by simp [h1]) y hy
   · rw [List.mem_singleton] at h1;subst h1;rcases List.mem_append.1 hy with h2 | h2
     · exact h.grp.key (K,g) (by simp) y h2
     · simp at h2;subst h2;exact hK
 · have := h.grp.sort;rw [List.pairwise_append] at this ⊢;refine ⟨this.1,by simp,fun a ha b hb => ?_⟩;rw [List.mem_singleton] at hb;subst hb;exact this.2.2 a ha (K,g) (by simp)
 · have := h.flat;rw [List.map_append,List.flatten_append] at this ⊢;rw [List.take_succ_eq_append_getElem hk,← this];simp
theorem RstI.all {fr : Int} {st : Nat} {l : List Sm} {gs gs' : List (Nat × List Sm)} (h : RstI fr st l l.length gs) (h' : StepG fr st l gs' []) : gs = gs' := by
 refine grp_uniq h.grp h'.grp ?_;have h2 := h'.flat;rw [List.append_nil] at h2;rw [h2,h.flat,List.take_length]
theorem RstI.len {fr : Int} {st : Nat} {l : List Sm} {k : Nat} {gs : List (Nat × List Sm)} (h : RstI fr st l k gs) (hk : k ≤ l.length) : gs.length ≤ k := by
 have : ∀ gs : List (Nat × List Sm),(∀ g ∈ gs,g.2 ≠ []) → gs.length ≤ ((gs.map (·.2)).flatten).length := by
  intro gs
  induction gs with
  | nil => intro _;simp
  | cons g gs ih =>
   intro hg;have h1 := ih (fun x hx => hg x (by simp [hx]));have h2 : 0 < g.2.length := List.length_pos_iff.2 (hg g (by simp));simp only [List.map_cons,List.flatten_cons,List.length_append,List.length_cons];omega
 have h1 := this gs h.grp.ne;rw [h.flat,List.length_take] at h1;omega
theorem RstI.before {fr : Int} {st : Nat} {l : List Sm} (hr : RiseL l) {k : Nat} {gs : List (Nat × List Sm)} {K : Nat} {g : List Sm} (h : RstI fr st l k (gs ++ [(K,g)])) (hk : k < l.length) : RiseL (g ++ [l[k]]) ∧ g ≠ [] ∧ g.length ≤ k ∧ ∀ x ∈ g,x ∈ l := by
 have h1 := h.flat;rw [List.map_append,List.flatten_append] at h1;simp at h1;have h2 : (gs.map (·.2)).flatten ++ (g ++ [l[k]]) = l.take (k + 1) := by
  rw [List.take_succ_eq_append_getElem hk,← h1,List.append_assoc]
 have h3 : RiseL (l.take (k + 1)) := by
  have := hr;rw [← List.take_append_drop (k + 1) l] at this;exact (List.pairwise_append.1 this).1
 rw [← h2] at h3;refine ⟨(List.pairwise_append.1 h3).2.1,h.grp.ne (K,g) (by simp),?_,fun x hx => ?_⟩
 · have := congrArg List.length h1;simp at this;omega
 · have : x ∈ l.take k := by rw [← h1];simp [hx]
   exact List.mem_of_mem_take this
end
section
open Go.RowKit
attribute [local go_sem] odr cdr
def RStepPost (w : World) (fr : Int) (st : Nat) (all : List Sm) (en : Ending) (w' : World) : Prop :=
 (∃ e,w' = over w e) ∧ ∃ v gs,en = .returned (.tuple #[v,.int .i64 0]) ∧ RstI fr st all all.length gs ∧ OwnU w.heap.size w' v (gs.map (buOf fr st))
theorem SlU.at2 {w : World} {a : Option Addr} {cap : Nat} {xs : List Bu} (h : Sl 10 Bu.cs w a cap xs) {k : Nat} (hk : k < xs.length) :
    ∃ b off,a = some ⟨b,off,none⟩ ∧ b < w.heap.size ∧ w.cell? ⟨b,off + k * 10,none⟩ = some (.int .i64 xs[k].fr) ∧ w.cell? ⟨b,off + k * 10 + 1,none⟩ = some (.int .u64 (xs[k].ag.n : Nat)) ∧ w.cell? ⟨b,off + k * 10 + 2,none⟩ = some (.int .i64 xs[k].ag.f.t) ∧ w.cell? ⟨b,off + k * 10 + 3,none⟩ = some (.int .u64 (xs[k].ag.f.v : Nat)) ∧
      w.cell? ⟨b,off + k * 10 + 4,none⟩ = some (.int .i64 xs[k].ag.l.t) ∧ w.cell? ⟨b,off + k * 10 + 5,none⟩ = some (.int .u64 (xs[k].ag.l.v : Nat)) ∧ w.cell? ⟨b,off + k * 10 + 6,none⟩ = some (.int .u64 (xs[k].ag.mn : Nat)) ∧ w.cell? ⟨b,off + k * 10 + 7,none⟩ = some (.int .u64 (xs[k].ag.mx : Nat)) ∧ w.cell? ⟨b,off + k * 10 + 8,none⟩ = some (.int .u64 (xs[k].ag.hi : Nat)) ∧ w.cell? ⟨b,off + k * 10 + 9,none⟩ = some (.int .u64 (xs[k].ag.lo : Nat)) := by
  obtain ⟨b,off,rfl,hb,hcell⟩ := h.rec_ k xs[k] (List.getElem?_eq_getElem hk);exact ⟨b,off,rfl,hb,hcell 0 _ rfl,hcell 1 _ rfl,hcell 2 _ rfl,hcell 3 _ rfl,hcell 4 _ rfl,hcell 5 _ rfl,hcell 6 _ rfl,hcell 7 _ rfl,hcell 8 _ rfl,hcell 9 _ rfl⟩
theorem buI {F : Int} {A : Ag} {bs0 : List Bu} {i : Nat} (hi : bs0.length = i) (B : Ag) : (bs0 ++ [(⟨F,A⟩ : Bu)]).set i ⟨F,B⟩ = bs0 ++ [⟨F,B⟩] := by
 subst hi;rw [List.set_append_right _ _ (Nat.le_refl _)];simp
theorem bu_step {base g n cap m : Nat} {w : World} {bs0 : List Bu} {F : Int} {A : Ag} (h : OwnU base w (.slice (some ⟨g,0,none⟩) n cap) (bs0 ++ [⟨F,A⟩])) (hm : bs0.length = m) (A' : Ag) (j : Nat) (u : Value) (hy : (⟨F,A'⟩ : Bu).cs = (⟨F,A⟩ : Bu).cs.set j u) (hj : j < 10) :
    OwnU base (w.setCell ⟨g,m * 10 + j,none⟩ u) (.slice (some ⟨g,0,none⟩) n cap) (bs0 ++ [⟨F,A'⟩]) := by
  have hl : m < (bs0 ++ [(⟨F,A⟩ : Bu)]).length := by simp;omega
  have he : (bs0 ++ [(⟨F,A⟩ : Bu)])[m]'hl = ⟨F,A⟩ := by subst hm;simp
  have h1 := Own.set_ Bu.cs_len h hl ⟨F,A'⟩ j u (by rw [he];exact hy) hj;rw [buI hm] at h1;exact h1
theorem setBu_own {base g n cap m : Nat} {w : World} {bs0 : List Bu} {F : Int} {A : Ag} (h : OwnU base w (.slice (some ⟨g,0,none⟩) n cap) (bs0 ++ [⟨F,A⟩])) (hm : bs0.length = m) (B : Ag) :
    OwnU base (((((((((w.setCell ⟨g,m * 10 + 1,none⟩ (.int .u64 (B.n : Nat))).setCell ⟨g,m * 10 + 1 + 1,none⟩ (.int .i64 B.f.t)).setCell ⟨g,m * 10 + 1 + 2,none⟩ (.int .u64 (B.f.v : Nat))).setCell ⟨g,m * 10 + 1 + 3,none⟩ (.int .i64 B.l.t)).setCell ⟨g,m * 10 + 1 + 4,none⟩ (.int .u64 (B.l.v : Nat))).setCell ⟨g,m * 10 + 1 + 5,none⟩ (.int .u64 (B.mn : Nat))).setCell ⟨g,m * 10 + 1 + 6,none⟩ (.int .u64 (B.mx : Nat))).setCell ⟨g,m * 10 + 1 + 7,none⟩ (.int .u64 (B.hi : Nat))).setCell ⟨g,m * 10 + 1 + 8,none⟩ (.int .u64 (B.lo : Nat))) (.slice (some ⟨g,0,none⟩) n cap) (bs0 ++ [⟨F,B⟩]) := by
  obtain ⟨An,⟨Aft,Afv⟩,⟨Alt,Alv⟩,Amn,Amx,Ahi,Alo⟩ := A;obtain ⟨Bn,⟨Bft,Bfv⟩,⟨Blt,Blv⟩,Bmn,Bmx,Bhi,Blo⟩ := B;have h1 := bu_step h hm ⟨Bn,⟨Aft,Afv⟩,⟨Alt,Alv⟩,Amn,Amx,Ahi,Alo⟩ 1 _ rfl (by decide);have h2 := bu_step h1 hm ⟨Bn,⟨Bft,Afv⟩,⟨Alt,Alv⟩,Amn,Amx,Ahi,Alo⟩ 2 _ rfl (by decide);have h3 := bu_step h2 hm ⟨Bn,⟨Bft,Bfv⟩,⟨Alt,Alv⟩,Amn,Amx,Ahi,Alo⟩ 3 _ rfl (by decide);have h4 := bu_step h3 hm ⟨Bn,⟨Bft,Bfv⟩,⟨Blt,Alv⟩,Amn,Amx,Ahi,Alo⟩ 4 _ rfl (by decide);have h5 := bu_step h4 hm ⟨Bn,⟨Bft,Bfv⟩,⟨Blt,Blv⟩,Amn,Amx,Ahi,Alo⟩ 5 _ rfl (by decide);have h6 := bu_step h5 hm ⟨Bn,⟨Bft,Bfv⟩,⟨Blt,Blv⟩,Bmn,Amx,Ahi,Alo⟩ 6 _ rfl (by decide);have h7 := bu_step h6 hm ⟨Bn,⟨Bft,Bfv⟩,⟨Blt,Blv⟩,Bmn,Bmx,Ahi,Alo⟩ 7 _ rfl (by decide);have h8 := bu_step h7 hm ⟨Bn,⟨Bft,Bfv⟩,⟨Blt,Blv⟩,Bmn,Bmx,Bhi,Alo⟩ 8 _ rfl (by decide);have h9 := bu_step h8 hm ⟨Bn,⟨Bft,Bfv⟩,⟨Blt,Blv⟩,Bmn,Bmx,Bhi,Blo⟩ 9 _ rfl (by decide);exact h9
theorem setBu_ov {w0 w : World} {g m : Nat} (h : ∃ e,w = over w0 e) (hp : w0.heap.size ≤ g) (B : Ag) : ∃ e,(((((((((w.setCell ⟨g,m * 10 + 1,none⟩ (.int .u64 (B.n : Nat))).setCell ⟨g,m * 10 + 1 + 1,none⟩ (.int .i64 B.f.t)).setCell ⟨g,m * 10 + 1 + 2,none⟩ (.int .u64 (B.f.v : Nat))).setCell ⟨g,m * 10 + 1 + 3,none⟩ (.int .i64 B.l.t)).setCell ⟨g,m * 10 + 1 + 4,none⟩ (.int .u64 (B.l.v : Nat))).setCell ⟨g,m * 10 + 1 + 5,none⟩ (.int .u64 (B.mn : Nat))).setCell ⟨g,m * 10 + 1 + 6,none⟩ (.int .u64 (B.mx : Nat))).setCell ⟨g,m * 10 + 1 + 7,none⟩ (.int .u64 (B.hi : Nat))).setCell ⟨g,m * 10 + 1 + 8,none⟩ (.int .u64 (B.lo : Nat))) = over w0 e :=
 exs (exs (exs (exs (exs (exs (exs (exs (exs h hp _) hp _) hp _) hp _) hp _) hp _) hp _) hp _) hp _
theorem betw_rise {l : List Sm} (h : RiseL l) (f t : Int) : RiseL (betw l f t) := List.Pairwise.filter _ h
def hid' (gs : List (Nat × List Sm)) (L K : Nat) : Prop := gs = [] ∨ (gs.length ≠ 0 ∧ K ≠ L)
theorem rsteps_yes {base : Nat} {w : World} {p sz : Nat} {v : Value} {rs : List Rr} {R : List (Nat × Sr)} (h : RbAt base w p sz v rs R) (id : Nat) (hlen2 : rs.length ≤ 1000000) {s : Sr} (hs : getS R id = s) (hall : s.all.length ≤ 900) (hcl : s.cl.length ≤ 100000) (hr : RiseL s.all) (hwf : ∀ x ∈ s.all,x.wf) (fr to : Int) (hf : -9223372036854775808 ≤ fr ∧ fr ≤ 9223372036854775807) (hft : fr ≤ to) (st : Nat) (hst : 0 < st) (hst2 : st < 18446744073709551616) :
    Calls Tryz.prog 11 #[.pointer (some ⟨p,0,none⟩),.int .u32 (id : Nat),.agg #[.int .i64 fr,.int .i64 to],.int .u64 (st : Nat)] w (RStepPost w fr st (betw s.all fr to)) := by
  have HB := hid (fun W (hW : ∃ e,W = over w e) => rbetween_any (RbAt.ov h hW) id hlen2 hs (by omega) hcl fr to);have hrb := betw_rise hr fr to;have hwb : ∀ x ∈ betw s.all fr to,x.wf ∧ fr ≤ x.t := fun x hx => ⟨hwf x (List.mem_filter.1 hx).1,(betw_mem hx).1⟩;have hlb := betw_len s.all fr to;obtain ⟨xs,hxs⟩ : ∃ xs,betw s.all fr to = xs := ⟨_,rfl⟩;rw [hxs] at HB hrb hwb hlb ⊢;have HR := hid hrb;have HW := hid hwb;have hxl : xs.length ≤ 900 := by omega
  have hd0 : decide (to < fr) = false := decide_eq_false (by omega);have hs0 : ((st : Int) == 0) = false := by simp;omega
  have hs1 : (st == 0) = false := by simp;omega
  clear h hlen2 hs hcl hr hwf hxs hrb hwb hlb hall hft
  go_enter Tryz.func11,Tryz.ntmps11
  go_wp2_with (
    (go_at_call 14)
    (with_reducible refine (HB.out _ ovA).mono ?_)
    rintro _ w1 ⟨⟨e1,hw1⟩,v2,rfl,o2⟩;have O1 : Hid (∃ e,w1 = over w e) := hid (by rw [hw1];exact ovA);have B1 : Hid (Blk w1 w.heap.size [.int .i64 fr,.int .i64 to] 25) := hid (by rw [hw1];exact Blk.on (Blk.new' rfl) _);obtain ⟨a2,c2,rfl,s2⟩ := Own.slice Sm.cs_len o2;have S2 := hid s2;have b0 := B1.out.cell 0 rfl;have bl := B1.out.lt;clear hw1 o2 s2)
  go_loopw [11,12,13,14,15,16,17] (fun v lst i _ _ _ _ wr => ∃ (k : Nat) (gs : List (Nat × List Sm)) (L : Nat),k ≤ xs.length ∧ i = .int .i64 (k : Nat) ∧ lst = .int .u64 (L : Nat) ∧ (∀ gs' g,gs = gs' ++ [g] → g.1 = L) ∧ RstI fr st xs k gs ∧ OwnU w1.heap.size wr v (gs.map (buOf fr st)) ∧ Ov w1 wr) (fun _ _ i _ _ _ _ _ => xs.length - (intOf i).toNat)
  case atStart => exact ⟨0,[],0,Nat.zero_le _,rfl,rfl,by simp,RstI.nil _ _ _,Own.nil _,ovA⟩
  case round =>
   obtain ⟨k,gs,L,hk,rfl,rfl,hL,hI,hown,⟨e0,rfl⟩⟩ := hrel;have hgl := hI.len hk;by_cases hlt : k < xs.length
   · obtain ⟨cb,co,rfl,hcb,q0,q1⟩ := SlM.at_ S2.out hlt;have hxw := HW.out _ (List.getElem_mem hlt);obtain ⟨x,hx⟩ : ∃ x,xs[k]'hlt = x := ⟨_,rfl⟩;rw [hx] at q0 q1 hxw;have HX := hid hx;have hd : decide (k < xs.length) = true := decide_eq_true hlt
     -- the bucket's number
     obtain ⟨K,hK⟩ : ∃ K,keyB fr st x = K := ⟨_,rfl⟩;have hdw : IntKind.u64.wrap (IntKind.u64.wrap x.t - IntKind.u64.wrap fr) = ((x.t - fr).toNat : Int) := by
      have h1 := hxw.1.1;have h2 := hxw.2;unfold i64ok at h1;simp only [IntKind.wrap_u64];omega
     obtain ⟨d,hd9⟩ : ∃ d,(x.t - fr).toNat = d := ⟨_,rfl⟩;have hKd : d / st = K := by rw [← hK,← hd9];rfl
     have hdb : d < 18446744073709551616 := by have h1 := hxw.1.1;unfold i64ok at h1;omega
     have hKb : K ≤ d := by rw [← hKd];exact Nat.div_le_self _ _
     have hKm : K * st ≤ d := by rw [← hKd];exact Nat.div_mul_le_self _ _
     rw [hd9] at hdw;have hq : IntKind.u64.wrap ((d : Int) / (st : Int)) = (K : Int) := by
      have hz : (d : Int) / (st : Int) = ((d / st : Nat) : Int) := (Int.natCast_ediv d st).symm;rw [hz,hKd,IntKind.wrap_u64];omega
     have hq2 : IntKind.u64.wrap ((d : Int).tdiv (st : Int)) = (K : Int) := by rw [Int.tdiv_eq_ediv_of_nonneg (Int.natCast_nonneg d)];exact hq
     obtain ⟨km,hkm⟩ : ∃ z,K * st = z := ⟨_,rfl⟩;have hF : IntKind.i64.wrap (IntKind.u64.wrap (IntKind.u64.wrap fr + IntKind.u64.wrap ((K : Int) * (st : Int)))) = fr + (km : Int) := by
      have e : (K : Int) * (st : Int) = (km : Int) := by rw [← hkm];simp
      have h1 := hxw.1.1;unfold i64ok at h1;rw [e];simp only [IntKind.wrap_u64,IntKind.wrap_i64];rw [hkm] at hKm;omega
     have hok : (∀ gs' g,gs = gs' ++ [g] → g.1 ≠ K) ∨ ∃ gs' g,gs = gs' ++ [(K,g)] := by
      rcases List.eq_nil_or_concat gs with h0 | ⟨gs',g,h0⟩
      · left;intro gs' g h1;rw [h0] at h1;simp at h1
      · rw [List.concat_eq_append] at h0;by_cases hg : g.1 = K
        · right;exact ⟨gs',g.2,by rw [h0,← hg]⟩
        · left
          intro gs2 g2 h1;rw [h0] at h1;obtain ⟨_,h2⟩ := List.append_inj' h1 rfl;simp at h2;rw [← h2];exact hg
     have HO := hid (fun W => rone_any x W);have hxv := hxw.1.2;rcases hok with hno | ⟨gs',g0,hgs⟩
     · have hnw := RstI.new_ HR.out hI hlt (by rw [hx];exact hK) hno;rw [hx] at hnw;have hwn : hid' gs L K := by
        unfold hid';rcases List.eq_nil_or_concat gs with h0 | ⟨gs',g,h0⟩
        · left;exact h0
        · right
          rw [List.concat_eq_append] at h0;have h1 := hL _ _ h0;have h2 := hno _ _ h0;exact ⟨by rw [h0];simp,fun e => h2 (by rw [h1,e])⟩
       have HN := hid hnw;have hml : (gs.map (buOf fr st)).length = gs.length := by simp
       obtain ⟨bs0,hbs⟩ : ∃ bs,gs.map (buOf fr st) = bs := ⟨_,rfl⟩;rw [hbs] at hml hown;obtain ⟨av,cv0,rfl,_⟩ := Own.slice Bu.cs_len hown;have HOW := hid hown;have HBS := hid hbs;have HJ0 := hid (fun W => rjoin_any Ag.zero ⟨1,x,x,x.v,x.v,0,x.v⟩ ⟨by simp [Ag.zero],⟨by simp [Ag.zero],hxv⟩,by simp [Ag.zero],.inl rfl⟩ W);have hj0 : agJ Ag.zero ⟨1,x,x,x.v,x.v,0,x.v⟩ = agC [x] := by rw [agC_one x hxv];rfl
       rw [hj0] at HJ0;obtain ⟨A,hA⟩ : ∃ A,Ag.zero = A := ⟨_,rfl⟩;obtain ⟨B,hB⟩ : ∃ B,agC [x] = B := ⟨_,rfl⟩;have HJ := hid HJ0.out;rw [hA,hB] at HJ;obtain ⟨F,hFe⟩ : ∃ F,fr + (km : Int) = F := ⟨_,rfl⟩;rw [hFe] at hF;have HGS : Hid ((gs ++ [(K,[x])]).map (buOf fr st) = bs0 ++ [⟨F,B⟩]) := hid (by
        rw [List.map_append,HBS.out,← hB,← hFe,← hkm];simp [buOf])
       have HLL : Hid (∀ gs' g,gs ++ [(K,[x])] = gs' ++ [g] → g.1 = K) := hid (fun gs' g h => by
        obtain ⟨_,h2⟩ := List.append_inj' h rfl;simp at h2;rw [← h2])
       have HNI := HN;obtain ⟨GS,hGS⟩ : ∃ GS,gs ++ [(K,[x])] = GS := ⟨_,rfl⟩;rw [hGS] at HGS HLL HNI;have hmle : bs0.length ≤ 900 := by omega
       obtain ⟨m,hm⟩ : ∃ m,bs0.length = m := ⟨_,rfl⟩;have HM := hid hm;have HMB : Hid (m ≤ 900) := hid (by omega);have HA := hid hA;have h12 : bs0 = [] ∨ (bs0.length ≠ 0 ∧ K ≠ L) := by
        rcases hwn with h | h
        · left;rw [← HBS.out,h];rfl
        · right;exact ⟨by omega,h.2⟩
       clear hnw HN HJ0 hj0 hwn hno hI hL hbs hB hFe hGS hown hm hxw hx hK hd9 hKd hKb hKm hkm hml hA;rcases h12 with hb0 | ⟨hb0,hKL⟩
       · subst hb0;go_wp2;refine wro (by kernel_rfl) (by kernel_rfl) ?_;repeat (go_big_quiet_step ((fail)))
         refine wpQuiet_nil ?_;intro _ hw';obtain ⟨nq,rfl⟩ := hw';go_wp2_with (at_builtin;refine wpList_append bu_elem Bu.cs_len Bu.cs_one rfl (.tmp 57) (.tmp 67) rfl (B := w1) (xs := [(⟨F,Ag.zero⟩ : Bu)]) HOW.out rfl rfl ovA ovA (by exact asA) (by exact asA) (by (repeat with_reducible refine Sl.drew ?_);exact Sl.one_new (y := (⟨F,Ag.zero⟩ : Bu)) (by simp;try omega)) (by exact lnA) (by exact lnB) ?_;intro v8 x8 ho8 _ _;obtain ⟨g,cv,hv8,hg1,hg2,hg3,hg4⟩ := Own.open_ Bu.cs_len ho8 (by simp);rw [List.length_append,HM.out,List.length_singleton] at hv8;subst hv8;rw [HA.out] at ho8;have HO8 := hid ho8;clear ho8 hg3 hg4)
         refine gen_w ?_;intro W5 hW5;have O5 : Hid (∃ e,W5 = over w1 e) := hid (by rw [hW5];exact ovA);have OW5 : Hid (OwnU w1.heap.size W5 (.slice (some ⟨g,0,none⟩) (m + 1) cv) ([] ++ [⟨F,A⟩])) := hid (by rw [hW5];exact (by exact ownA HO8.out));clear hW5;obtain ⟨g5,c5,hg5,hg6,hg7,hcell5,hfr5⟩ := Own.open_ Bu.cs_len OW5.out (by simp);obtain ⟨hq1,hq3,hq2⟩ := Value.slice.inj hg5;have hmb : m ≤ 900 := HMB.out;cases hq1;have u := fun j z hj => hcell5 m ⟨F,A⟩ (by rw [List.getElem?_append_right (by rw [HM.out];exact Nat.le_refl _),HM.out,Nat.sub_self];rfl) j z hj;have u1 := u 1 _ rfl;have u2 := u 2 _ rfl;have u3 := u 3 _ rfl;have u4 := u 4 _ rfl;have u5 := u 5 _ rfl;have u6 := u 6 _ rfl;have u7 := u 7 _ rfl;have u8 := u 8 _ rfl;have u9 := u 9 _ rfl;have fg : ∀ j,W5.frozen? ⟨g,j,none⟩ = false := fun j => hfr5 j;have S5 := hid (Sl.ov S2.out O5.out);obtain ⟨cb5,co5,hcb5,hcb6,p0,p1⟩ := SlM.at_ S5.out hlt;cases hcb5;rw [HX.out] at p0 p1;have gne : ¬ g = cb := by omega
         clear hg5 hq2 hq3 hcell5 hfr5 u;obtain ⟨An,⟨Aft,Afv⟩,⟨Alt,Alv⟩,Amn,Amx,Ahi,Alo⟩ := A;simp only at u1 u2 u3 u4 u5 u6 u7 u8 u9;have hwm : wrap64 (m : Int) = (m : Int) := by unfold wrap64;omega
         have hlm : (m : Int) < (m : Int) + 1 := by omega
         apply rg4 (F := fun q1 _ _ _ W => (∃ e,W = over W5 e) ∧ Blk W q1 B.cs 85)
         case h1 =>
          refine M2.wp_region_tree (fun w' => ∃ e : World,w' = over _ e) [9,10,14,15] (.q 0 (.q 1 (.q 2 (.q 3 (.q 4 (.q 5 (.q 6 (.q 7 (.q 8 (.e 9 (.e 10 (.q 11 (.q 12 (.q 13 (.e 14 (.e 15 (.q 16 .done) .no) .no)))) (.e 14 (.e 10 (.q 11 (.q 12 (.q 13 (.e 15 (.q 16 .done) .no)))) .no) .no)) (.e 14 (.e 9 (.e 10 (.q 11 (.q 12 (.q 13 (.e 15 (.q 16 .done) .no)))) .no) .no) .no))))))))))) (by kernel_rfl) (by kernel_rfl) (ex_drew (ovs _)) ?_;repeat (refine M2.tree_q rfl rfl ?_;go_big_quiet_step (fail);refine wpQuiet_nil ?_)
          refine M2.tree_e (k := 9) rfl ?_ ?_
          · go_wp2_with ((go_at_call 43;(with_reducible refine (HO.out _).mono ?_);rintro _ _ ⟨⟨e6,rfl⟩,rfl⟩))
            refine M2.TreeQ.mk ovA ?_;refine M2.tree_e (k := 10) rfl ?_ ?_
            · go_wp2_with ((go_at_call 42;(with_reducible refine (HJ.out _).mono ?_);rintro _ _ ⟨⟨e7,rfl⟩,rfl⟩))
              refine M2.TreeQ.mk ovA ?_;repeat (refine M2.tree_q rfl rfl ?_;go_big_quiet_step (fail);refine wpQuiet_nil ?_)
              refine M2.tree_e1 (k := 14) rfl ?_;go_wp2_with (fail)
              refine M2.TreeQ.mk ovA ?_;refine M2.tree_e1 (k := 15) rfl ?_;go_wp2_with (fail)
              refine M2.TreeQ.mk ovA ?_;repeat (refine M2.tree_q rfl rfl ?_;go_big_quiet_step (fail);refine wpQuiet_nil ?_)
              refine M2.trd ?_;obtain ⟨q1,hq1⟩ : ∃ q,q = (W5.heap.size + e6.heap.size + e7.heap.size) := ⟨_,rfl⟩;rw [← hq1];obtain ⟨q2,hq2⟩ : ∃ q : Nat,q = 0 := ⟨_,rfl⟩;obtain ⟨z9,hz9⟩ : ∃ z : Option Addr,z = none := ⟨_,rfl⟩;obtain ⟨z8,hz8⟩ : ∃ z : Nat,z = 0 := ⟨_,rfl⟩;exact RgPost.mk q1 q2 z9 z8 rfl ⟨ovA,by rw [hq1];exact (by exact blA)⟩
            refine M2.tree_e (k := 14) rfl ?_ ?_
            · go_wp2_with (fail)
              refine M2.TreeQ.mk ovA ?_;refine M2.tree_e1 (k := 10) rfl ?_;go_wp2_with ((go_at_call 42;(with_reducible refine (HJ.out _).mono ?_);rintro _ _ ⟨⟨e7,rfl⟩,rfl⟩))
              refine M2.TreeQ.mk ovA ?_;repeat (refine M2.tree_q rfl rfl ?_;go_big_quiet_step (fail);refine wpQuiet_nil ?_)
              refine M2.tree_e1 (k := 15) rfl ?_;go_wp2_with (fail)
              refine M2.TreeQ.mk ovA ?_;repeat (refine M2.tree_q rfl rfl ?_;go_big_quiet_step (fail);refine wpQuiet_nil ?_)
              refine M2.trd ?_;obtain ⟨q1,hq1⟩ : ∃ q,q = (W5.heap.size + e6.heap.size) := ⟨_,rfl⟩;rw [← hq1];obtain ⟨q2,hq2⟩ : ∃ q : Nat,q = 0 := ⟨_,rfl⟩;obtain ⟨z9,hz9⟩ : ∃ z : Option Addr,z = none := ⟨_,rfl⟩;obtain ⟨z8,hz8⟩ : ∃ z : Nat,z = 0 := ⟨_,rfl⟩;exact RgPost.mk q1 q2 z9 z8 rfl ⟨ovA,by rw [hq1];exact (by exact blA)⟩
            exact M2.tree_no
          refine M2.tree_e (k := 14) rfl ?_ ?_
          · go_wp2_with (fail)
            refine M2.TreeQ.mk ovA ?_;refine M2.tree_e1 (k := 9) rfl ?_;go_wp2_with ((go_at_call 43;(with_reducible refine (HO.out _).mono ?_);rintro _ _ ⟨⟨e6,rfl⟩,rfl⟩))
            refine M2.TreeQ.mk ovA ?_;refine M2.tree_e1 (k := 10) rfl ?_;go_wp2_with ((go_at_call 42;(with_reducible refine (HJ.out _).mono ?_);rintro _ _ ⟨⟨e7,rfl⟩,rfl⟩))
            refine M2.TreeQ.mk ovA ?_;repeat (refine M2.tree_q rfl rfl ?_;go_big_quiet_step (fail);refine wpQuiet_nil ?_)
            refine M2.tree_e1 (k := 15) rfl ?_;go_wp2_with (fail)
            refine M2.TreeQ.mk ovA ?_;repeat (refine M2.tree_q rfl rfl ?_;go_big_quiet_step (fail);refine wpQuiet_nil ?_)
            refine M2.trd ?_;obtain ⟨q1,hq1⟩ : ∃ q,q = (W5.heap.size) := ⟨_,rfl⟩;rw [← hq1];obtain ⟨q2,hq2⟩ : ∃ q : Nat,q = 0 := ⟨_,rfl⟩;obtain ⟨z9,hz9⟩ : ∃ z : Option Addr,z = none := ⟨_,rfl⟩;obtain ⟨z8,hz8⟩ : ∃ z : Nat,z = 0 := ⟨_,rfl⟩;exact RgPost.mk q1 q2 z9 z8 rfl ⟨ovA,by rw [hq1];exact (by exact blA)⟩
          exact M2.tree_no
         case h2 =>
          intro q1 _ _ _ W6 hv;have O6 := hid hv.1;have B6 := hid hv.2;clear hv;have y1 := B6.out.cell 0 rfl;have y2 := B6.out.cell 1 rfl;have y3 := B6.out.cell 2 rfl;have y4 := B6.out.cell 3 rfl;have y5 := B6.out.cell 4 rfl;have y6 := B6.out.cell 5 rfl;have y7 := B6.out.cell 6 rfl;have y8 := B6.out.cell 7 rfl;have y9 := B6.out.cell 8 rfl;have yl := B6.out.lt;have O61 : Hid (∃ e,W6 = over w1 e) := hid (over_trans O5.out O6.out);have OW6 : Hid (OwnU w1.heap.size W6 (.slice (some ⟨g,0,none⟩) (m + 1) cv) ([] ++ [⟨F,⟨An,⟨Aft,Afv⟩,⟨Alt,Alv⟩,Amn,Amx,Ahi,Alo⟩⟩])) := hid (by obtain ⟨e,he⟩ := O6.out;rw [he];exact Own.over OW5.out e);obtain ⟨_,_,hg5,_,hg8,hc6,hf6⟩ := Own.open_ Bu.cs_len OW6.out (by simp);obtain ⟨hq1,hq3,hq2⟩ := Value.slice.inj hg5;cases hq1;have u := fun j z hj => hc6 m ⟨F,⟨An,⟨Aft,Afv⟩,⟨Alt,Alv⟩,Amn,Amx,Ahi,Alo⟩⟩ (by rw [List.getElem?_append_right (by rw [HM.out];exact Nat.le_refl _),HM.out,Nat.sub_self];rfl) j z hj;have v1 := u 1 _ rfl;have v2 := u 2 _ rfl;have v3 := u 3 _ rfl;have v4 := u 4 _ rfl;have v5 := u 5 _ rfl;have v6 := u 6 _ rfl;have v7 := u 7 _ rfl;have v8 := u 8 _ rfl;have v9 := u 9 _ rfl;have fg6 : ∀ j,W6.frozen? ⟨g,j,none⟩ = false := fun j => hf6 j;clear hg5 hq2 hq3 hc6 hf6 u;go_wp2;go_roundw
          case rel => exact ⟨k + 1,GS,K,by omega,by go_num,rfl,HLL.out,HNI.out,by rw [HGS.out];exact setBu_own OW6.out HM.out B,setBu_ov O61.out hg6 B⟩
          case measure => (simp [intOf];try omega)
       · have hn0 : ((bs0.length : Int) == 0) = false := by simp;exact fun h => hb0 (by rw [h];rfl)
         have hn1 : ((K : Int) != (L : Int)) = true := by simp;omega
         have hn2 : (K != L) = true := by simp;exact hKL
         clear hb0 hKL;go_wp2;refine wro (by kernel_rfl) (by kernel_rfl) ?_;repeat (go_big_quiet_step ((fail)))
         refine wpQuiet_nil ?_;intro _ hw';obtain ⟨nq,rfl⟩ := hw';go_wp2_with (at_builtin;refine wpList_append bu_elem Bu.cs_len Bu.cs_one rfl (.tmp 57) (.tmp 67) rfl (B := w1) (xs := [(⟨F,Ag.zero⟩ : Bu)]) HOW.out rfl rfl ovA ovA (by exact asA) (by exact asA) (by (repeat with_reducible refine Sl.drew ?_);exact Sl.one_new (y := (⟨F,Ag.zero⟩ : Bu)) (by simp;try omega)) (by exact lnA) (by exact lnB) ?_;intro v8 x8 ho8 _ _;obtain ⟨g,cv,hv8,hg1,hg2,hg3,hg4⟩ := Own.open_ Bu.cs_len ho8 (by simp);rw [List.length_append,HM.out,List.length_singleton] at hv8;subst hv8;rw [HA.out] at ho8;have HO8 := hid ho8;clear ho8 hg3 hg4)
         refine gen_w ?_;intro W5 hW5;have O5 : Hid (∃ e,W5 = over w1 e) := hid (by rw [hW5];exact ovA);have OW5 : Hid (OwnU w1.heap.size W5 (.slice (some ⟨g,0,none⟩) (m + 1) cv) (bs0 ++ [⟨F,A⟩])) := hid (by rw [hW5];exact (by exact ownA HO8.out));clear hW5;obtain ⟨g5,c5,hg5,hg6,hg7,hcell5,hfr5⟩ := Own.open_ Bu.cs_len OW5.out (by simp);obtain ⟨hq1,hq3,hq2⟩ := Value.slice.inj hg5;have hmb : m ≤ 900 := HMB.out;cases hq1;have u := fun j z hj => hcell5 m ⟨F,A⟩ (by rw [List.getElem?_append_right (by rw [HM.out];exact Nat.le_refl _),HM.out,Nat.sub_self];rfl) j z hj;have u1 := u 1 _ rfl;have u2 := u 2 _ rfl;have u3 := u 3 _ rfl;have u4 := u 4 _ rfl;have u5 := u 5 _ rfl;have u6 := u 6 _ rfl;have u7 := u 7 _ rfl;have u8 := u 8 _ rfl;have u9 := u 9 _ rfl;have fg : ∀ j,W5.frozen? ⟨g,j,none⟩ = false := fun j => hfr5 j;have S5 := hid (Sl.ov S2.out O5.out);obtain ⟨cb5,co5,hcb5,hcb6,p0,p1⟩ := SlM.at_ S5.out hlt;cases hcb5;rw [HX.out] at p0 p1;have gne : ¬ g = cb := by omega
         clear hg5 hq2 hq3 hcell5 hfr5 u;obtain ⟨An,⟨Aft,Afv⟩,⟨Alt,Alv⟩,Amn,Amx,Ahi,Alo⟩ := A;simp only at u1 u2 u3 u4 u5 u6 u7 u8 u9;have hwm : wrap64 (m : Int) = (m : Int) := by unfold wrap64;omega
         have hlm : (m : Int) < (m : Int) + 1 := by omega
         apply rg4 (F := fun q1 _ _ _ W => (∃ e,W = over W5 e) ∧ Blk W q1 B.cs 85)
         case h1 =>
          refine M2.wp_region_tree (fun w' => ∃ e : World,w' = over _ e) [9,10,14,15] (.q 0 (.q 1 (.q 2 (.q 3 (.q 4 (.q 5 (.q 6 (.q 7 (.q 8 (.e 9 (.e 10 (.q 11 (.q 12 (.q 13 (.e 14 (.e 15 (.q 16 .done) .no) .no)))) (.e 14 (.e 10 (.q 11 (.q 12 (.q 13 (.e 15 (.q 16 .done) .no)))) .no) .no)) (.e 14 (.e 9 (.e 10 (.q 11 (.q 12 (.q 13 (.e 15 (.q 16 .done) .no)))) .no) .no) .no))))))))))) (by kernel_rfl) (by kernel_rfl) (ex_drew (ovs _)) ?_;repeat (refine M2.tree_q rfl rfl ?_;go_big_quiet_step (fail);refine wpQuiet_nil ?_)
          refine M2.tree_e (k := 9) rfl ?_ ?_
          · go_wp2_with ((go_at_call 43;(with_reducible refine (HO.out _).mono ?_);rintro _ _ ⟨⟨e6,rfl⟩,rfl⟩))
            refine M2.TreeQ.mk ovA ?_;refine M2.tree_e (k := 10) rfl ?_ ?_
            · go_wp2_with ((go_at_call 42;(with_reducible refine (HJ.out _).mono ?_);rintro _ _ ⟨⟨e7,rfl⟩,rfl⟩))
              refine M2.TreeQ.mk ovA ?_;repeat (refine M2.tree_q rfl rfl ?_;go_big_quiet_step (fail);refine wpQuiet_nil ?_)
              refine M2.tree_e1 (k := 14) rfl ?_;go_wp2_with (fail)
              refine M2.TreeQ.mk ovA ?_;refine M2.tree_e1 (k := 15) rfl ?_;go_wp2_with (fail)
              refine M2.TreeQ.mk ovA ?_;repeat (refine M2.tree_q rfl rfl ?_;go_big_quiet_step (fail);refine wpQuiet_nil ?_)
              refine M2.trd ?_;obtain ⟨q1,hq1⟩ : ∃ q,q = (W5.heap.size + e6.heap.size + e7.heap.size) := ⟨_,rfl⟩;rw [← hq1];obtain ⟨q2,hq2⟩ : ∃ q : Nat,q = 0 := ⟨_,rfl⟩;obtain ⟨z9,hz9⟩ : ∃ z : Option Addr,z = none := ⟨_,rfl⟩;obtain ⟨z8,hz8⟩ : ∃ z : Nat,z = 0 := ⟨_,rfl⟩;exact RgPost.mk q1 q2 z9 z8 rfl ⟨ovA,by rw [hq1];exact (by exact blA)⟩
            refine M2.tree_e (k := 14) rfl ?_ ?_
            · go_wp2_with (fail)
              refine M2.TreeQ.mk ovA ?_;refine M2.tree_e1 (k := 10) rfl ?_;go_wp2_with ((go_at_call 42;(with_reducible refine (HJ.out _).mono ?_);rintro _ _ ⟨⟨e7,rfl⟩,rfl⟩))
              refine M2.TreeQ.mk ovA ?_;repeat (refine M2.tree_q rfl rfl ?_;go_big_quiet_step (fail);refine wpQuiet_nil ?_)
              refine M2.tree_e1 (k := 15) rfl ?_;go_wp2_with (fail)
              refine M2.TreeQ.mk ovA ?_;repeat (refine M2.tree_q rfl rfl ?_;go_big_quiet_step (fail);refine wpQuiet_nil ?_)
              refine M2.trd ?_;obtain ⟨q1,hq1⟩ : ∃ q,q = (W5.heap.size + e6.heap.size) := ⟨_,rfl⟩;rw [← hq1];obtain ⟨q2,hq2⟩ : ∃ q : Nat,q = 0 := ⟨_,rfl⟩;obtain ⟨z9,hz9⟩ : ∃ z : Option Addr,z = none := ⟨_,rfl⟩;obtain ⟨z8,hz8⟩ : ∃ z : Nat,z = 0 := ⟨_,rfl⟩;exact RgPost.mk q1 q2 z9 z8 rfl ⟨ovA,by rw [hq1];exact (by exact blA)⟩
            exact M2.tree_no
          refine M2.tree_e (k := 14) rfl ?_ ?_
          · go_wp2_with (fail)
            refine M2.TreeQ.mk ovA ?_;refine M2.tree_e1 (k := 9) rfl ?_;go_wp2_with ((go_at_call 43;(with_reducible refine (HO.out _).mono ?_);rintro _ _ ⟨⟨e6,rfl⟩,rfl⟩))
            refine M2.TreeQ.mk ovA ?_;refine M2.tree_e1 (k := 10) rfl ?_;go_wp2_with ((go_at_call 42;(with_reducible refine (HJ.out _).mono ?_);rintro _ _ ⟨⟨e7,rfl⟩,rfl⟩))
            refine M2.TreeQ.mk ovA ?_;repeat (refine M2.tree_q rfl rfl ?_;go_big_quiet_step (fail);refine wpQuiet_nil ?_)
            refine M2.tree_e1 (k := 15) rfl ?_;go_wp2_with (fail)
            refine M2.TreeQ.mk ovA ?_;repeat (refine M2.tree_q rfl rfl ?_;go_big_quiet_step (fail);refine wpQuiet_nil ?_)
            refine M2.trd ?_;obtain ⟨q1,hq1⟩ : ∃ q,q = (W5.heap.size) := ⟨_,rfl⟩;rw [← hq1];obtain ⟨q2,hq2⟩ : ∃ q : Nat,q = 0 := ⟨_,rfl⟩;obtain ⟨z9,hz9⟩ : ∃ z : Option Addr,z = none := ⟨_,rfl⟩;obtain ⟨z8,hz8⟩ : ∃ z : Nat,z = 0 := ⟨_,rfl⟩;exact RgPost.mk q1 q2 z9 z8 rfl ⟨ovA,by rw [hq1];exact (by exact blA)⟩
          exact M2.tree_no
         case h2 =>
          intro q1 _ _ _ W6 hv;have O6 := hid hv.1;have B6 := hid hv.2;clear hv;have y1 := B6.out.cell 0 rfl;have y2 := B6.out.cell 1 rfl;have y3 := B6.out.cell 2 rfl;have y4 := B6.out.cell 3 rfl;have y5 := B6.out.cell 4 rfl;have y6 := B6.out.cell 5 rfl;have y7 := B6.out.cell 6 rfl;have y8 := B6.out.cell 7 rfl;have y9 := B6.out.cell 8 rfl;have yl := B6.out.lt;have O61 : Hid (∃ e,W6 = over w1 e) := hid (over_trans O5.out O6.out);have OW6 : Hid (OwnU w1.heap.size W6 (.slice (some ⟨g,0,none⟩) (m + 1) cv) (bs0 ++ [⟨F,⟨An,⟨Aft,Afv⟩,⟨Alt,Alv⟩,Amn,Amx,Ahi,Alo⟩⟩])) := hid (by obtain ⟨e,he⟩ := O6.out;rw [he];exact Own.over OW5.out e);obtain ⟨_,_,hg5,_,hg8,hc6,hf6⟩ := Own.open_ Bu.cs_len OW6.out (by simp);obtain ⟨hq1,hq3,hq2⟩ := Value.slice.inj hg5;cases hq1;have u := fun j z hj => hc6 m ⟨F,⟨An,⟨Aft,Afv⟩,⟨Alt,Alv⟩,Amn,Amx,Ahi,Alo⟩⟩ (by rw [List.getElem?_append_right (by rw [HM.out];exact Nat.le_refl _),HM.out,Nat.sub_self];rfl) j z hj;have v1 := u 1 _ rfl;have v2 := u 2 _ rfl;have v3 := u 3 _ rfl;have v4 := u 4 _ rfl;have v5 := u 5 _ rfl;have v6 := u 6 _ rfl;have v7 := u 7 _ rfl;have v8 := u 8 _ rfl;have v9 := u 9 _ rfl;have fg6 : ∀ j,W6.frozen? ⟨g,j,none⟩ = false := fun j => hf6 j;clear hg5 hq2 hq3 hc6 hf6 u;go_wp2;go_roundw
          case rel => exact ⟨k + 1,GS,K,by omega,by go_num,rfl,HLL.out,HNI.out,by rw [HGS.out];exact setBu_own OW6.out HM.out B,setBu_ov O61.out hg6 B⟩
          case measure => (simp [intOf];try omega)
     · subst hgs;have hmr := RstI.more hI hlt (by rw [hx];exact hK);have hbf := RstI.before HR.out hI hlt;rw [hx] at hmr hbf;obtain rfl : K = L := hL _ _ rfl;obtain ⟨hb1,hb2,hb3,hb4⟩ := hbf;have hbd := agC_bd (l := g0) (fun y hy => (HW.out y (hb4 y hy)).1.2);have HJ0 := hid (fun W => rjoin_any (agC g0) ⟨1,x,x,x.v,x.v,0,x.v⟩ ⟨by simp only;omega,⟨by omega,hxv⟩,by simp only;omega,.inr (.inr (by
        rw [agC_l hb2];exact (List.pairwise_append.1 hb1).2.2 _ (List.getLast_mem hb2) x (by simp)))⟩ W)
       have hj0 : agJ (agC g0) ⟨1,x,x,x.v,x.v,0,x.v⟩ = agC (g0 ++ [x]) := by rw [← agC_one x hxv,agJ_agC]
       rw [hj0] at HJ0;obtain ⟨A,hA⟩ : ∃ A,agC g0 = A := ⟨_,rfl⟩;obtain ⟨B,hB⟩ : ∃ B,agC (g0 ++ [x]) = B := ⟨_,rfl⟩;have HJ := hid HJ0.out;rw [hA,hB] at HJ;obtain ⟨F,hFe⟩ : ∃ F,fr + (km : Int) = F := ⟨_,rfl⟩;obtain ⟨bs0,hbs⟩ : ∃ bs,gs'.map (buOf fr st) = bs := ⟨_,rfl⟩;have hml : gs'.length = bs0.length := by rw [← hbs];simp
       have hmp : (gs' ++ [(K,g0)]).map (buOf fr st) = bs0 ++ [⟨F,A⟩] := by rw [List.map_append,hbs,← hFe,← hkm,← hA];simp [buOf]
       have HGS : Hid ((gs' ++ [(K,g0 ++ [x])]).map (buOf fr st) = bs0 ++ [⟨F,B⟩]) := hid (by rw [List.map_append,hbs,← hFe,← hkm,← hB];simp [buOf]);rw [hmp] at hown;have HLL : Hid (∀ gs2 g,gs' ++ [(K,g0 ++ [x])] = gs2 ++ [g] → g.1 = K) := hid (fun gs' g h => by
        obtain ⟨_,h2⟩ := List.append_inj' h rfl;simp at h2;rw [← h2])
       have HNI := hid hmr;obtain ⟨GS,hGS⟩ : ∃ GS,gs' ++ [(K,g0 ++ [x])] = GS := ⟨_,rfl⟩;rw [hGS] at HGS HLL HNI;rw [List.length_append,List.length_singleton] at hgl;obtain ⟨m,hm⟩ : ∃ m,bs0.length = m := ⟨_,rfl⟩;have HM := hid hm;have HMB : Hid (m ≤ 900) := hid (by omega);obtain ⟨g,cv,hv8,hg1,hg2,hg3,hg4⟩ := Own.open_ Bu.cs_len hown (by simp);rw [List.length_append,hm,List.length_singleton] at hv8;subst hv8;have HOW := hid hown;have hmz : ((m : Int) + 1 == 0) = false := by simp;omega
       clear hmr hb1 hb2 hb3 hb4 hbd HJ0 hj0 hI hL hbs hB hFe hGS hown hm hxw hx hK hd9 hKd hKb hKm hkm hml hA hmp hg3 hg4;go_wp2;refine wro (by kernel_rfl) (by kernel_rfl) ?_;repeat (go_big_quiet_step ((fail)))
       refine wpQuiet_nil ?_;intro _ hw';obtain ⟨nq,rfl⟩ := hw';go_wp2;refine gen_w ?_;intro W5 hW5;have O5 : Hid (∃ e,W5 = over w1 e) := hid (by rw [hW5];exact ovA);have OW5 : Hid (OwnU w1.heap.size W5 (.slice (some ⟨g,0,none⟩) (m + 1) cv) (bs0 ++ [⟨F,A⟩])) := hid (by rw [hW5];exact (by exact ownA HOW.out));clear hW5;obtain ⟨g5,c5,hg5,hg6,hg7,hcell5,hfr5⟩ := Own.open_ Bu.cs_len OW5.out (by simp);obtain ⟨hq1,hq3,hq2⟩ := Value.slice.inj hg5;have hmb : m ≤ 900 := HMB.out;cases hq1;have u := fun j z hj => hcell5 m ⟨F,A⟩ (by rw [List.getElem?_append_right (by rw [HM.out];exact Nat.le_refl _),HM.out,Nat.sub_self];rfl) j z hj;have u1 := u 1 _ rfl;have u2 := u 2 _ rfl;have u3 := u 3 _ rfl;have u4 := u 4 _ rfl;have u5 := u 5 _ rfl;have u6 := u 6 _ rfl;have u7 := u 7 _ rfl;have u8 := u 8 _ rfl;have u9 := u 9 _ rfl;have fg : ∀ j,W5.frozen? ⟨g,j,none⟩ = false := fun j => hfr5 j;have S5 := hid (Sl.ov S2.out O5.out);obtain ⟨cb5,co5,hcb5,hcb6,p0,p1⟩ := SlM.at_ S5.out hlt;cases hcb5;rw [HX.out] at p0 p1;have gne : ¬ g = cb := by omega
       clear hg5 hq2 hq3 hcell5 hfr5 u;obtain ⟨An,⟨Aft,Afv⟩,⟨Alt,Alv⟩,Amn,Amx,Ahi,Alo⟩ := A;simp only at u1 u2 u3 u4 u5 u6 u7 u8 u9;have hwm : wrap64 (m : Int) = (m : Int) := by unfold wrap64;omega
       have hlm : (m : Int) < (m : Int) + 1 := by omega
       apply rg4 (F := fun q1 _ _ _ W => (∃ e,W = over W5 e) ∧ Blk W q1 B.cs 85)
       case h1 =>
        refine M2.wp_region_tree (fun w' => ∃ e : World,w' = over _ e) [9,10,14,15] (.q 0 (.q 1 (.q 2 (.q 3 (.q 4 (.q 5 (.q 6 (.q 7 (.q 8 (.e 9 (.e 10 (.q 11 (.q 12 (.q 13 (.e 14 (.e 15 (.q 16 .done) .no) .no)))) (.e 14 (.e 10 (.q 11 (.q 12 (.q 13 (.e 15 (.q 16 .done) .no)))) .no) .no)) (.e 14 (.e 9 (.e 10 (.q 11 (.q 12 (.q 13 (.e 15 (.q 16 .done) .no)))) .no) .no) .no))))))))))) (by kernel_rfl) (by kernel_rfl) (ex_drew (ovs _)) ?_;repeat (refine M2.tree_q rfl rfl ?_;go_big_quiet_step (fail);refine wpQuiet_nil ?_)
        refine M2.tree_e (k := 9) rfl ?_ ?_
        · go_wp2_with ((go_at_call 43;(with_reducible refine (HO.out _).mono ?_);rintro _ _ ⟨⟨e6,rfl⟩,rfl⟩))
          refine M2.TreeQ.mk ovA ?_;refine M2.tree_e (k := 10) rfl ?_ ?_
          · go_wp2_with ((go_at_call 42;(with_reducible refine (HJ.out _).mono ?_);rintro _ _ ⟨⟨e7,rfl⟩,rfl⟩))
            refine M2.TreeQ.mk ovA ?_;repeat (refine M2.tree_q rfl rfl ?_;go_big_quiet_step (fail);refine wpQuiet_nil ?_)
            refine M2.tree_e1 (k := 14) rfl ?_;go_wp2_with (fail)
            refine M2.TreeQ.mk ovA ?_;refine M2.tree_e1 (k := 15) rfl ?_;go_wp2_with (fail)
            refine M2.TreeQ.mk ovA ?_;repeat (refine M2.tree_q rfl rfl ?_;go_big_quiet_step (fail);refine wpQuiet_nil ?_)
            refine M2.trd ?_;obtain ⟨q1,hq1⟩ : ∃ q,q = (W5.heap.size + e6.heap.size + e7.heap.size) := ⟨_,rfl⟩;rw [← hq1];obtain ⟨q2,hq2⟩ : ∃ q : Nat,q = 0 := ⟨_,rfl⟩;obtain ⟨z9,hz9⟩ : ∃ z : Option Addr,z = none := ⟨_,rfl⟩;obtain ⟨z8,hz8⟩ : ∃ z : Nat,z = 0 := ⟨_,rfl⟩;exact RgPost.mk q1 q2 z9 z8 rfl ⟨ovA,by rw [hq1];exact (by exact blA)⟩
          refine M2.tree_e (k := 14) rfl ?_ ?_
          · go_wp2_with (fail)
            refine M2.TreeQ.mk ovA ?_;refine M2.tree_e1 (k := 10) rfl ?_;go_wp2_with ((go_at_call 42;(with_reducible refine (HJ.out _).mono ?_);rintro _ _ ⟨⟨e7,rfl⟩,rfl⟩))
            refine M2.TreeQ.mk ovA ?_;repeat (refine M2.tree_q rfl rfl ?_;go_big_quiet_step (fail);refine wpQuiet_nil ?_)
            refine M2.tree_e1 (k := 15) rfl ?_;go_wp2_with (fail)
            refine M2.TreeQ.mk ovA ?_;repeat (refine M2.tree_q rfl rfl ?_;go_big_quiet_step (fail);refine wpQuiet_nil ?_)
            refine M2.trd ?_;obtain ⟨q1,hq1⟩ : ∃ q,q = (W5.heap.size + e6.heap.size) := ⟨_,rfl⟩;rw [← hq1];obtain ⟨q2,hq2⟩ : ∃ q : Nat,q = 0 := ⟨_,rfl⟩;obtain ⟨z9,hz9⟩ : ∃ z : Option Addr,z = none := ⟨_,rfl⟩;obtain ⟨z8,hz8⟩ : ∃ z : Nat,z = 0 := ⟨_,rfl⟩;exact RgPost.mk q1 q2 z9 z8 rfl ⟨ovA,by rw [hq1];exact (by exact blA)⟩
          exact M2.tree_no
        refine M2.tree_e (k := 14) rfl ?_ ?_
        · go_wp2_with (fail)
          refine M2.TreeQ.mk ovA ?_;refine M2.tree_e1 (k := 9) rfl ?_;go_wp2_with ((go_at_call 43;(with_reducible refine (HO.out _).mono ?_);rintro _ _ ⟨⟨e6,rfl⟩,rfl⟩))
          refine M2.TreeQ.mk ovA ?_;refine M2.tree_e1 (k := 10) rfl ?_;go_wp2_with ((go_at_call 42;(with_reducible refine (HJ.out _).mono ?_);rintro _ _ ⟨⟨e7,rfl⟩,rfl⟩))
          refine M2.TreeQ.mk ovA ?_;repeat (refine M2.tree_q rfl rfl ?_;go_big_quiet_step (fail);refine wpQuiet_nil ?_)
          refine M2.tree_e1 (k := 15) rfl ?_;go_wp2_with (fail)
          refine M2.TreeQ.mk ovA ?_;repeat (refine M2.tree_q rfl rfl ?_;go_big_quiet_step (fail);refine wpQuiet_nil ?_)
          refine M2.trd ?_;obtain ⟨q1,hq1⟩ : ∃ q,q = (W5.heap.size) := ⟨_,rfl⟩;rw [← hq1];obtain ⟨q2,hq2⟩ : ∃ q : Nat,q = 0 := ⟨_,rfl⟩;obtain ⟨z9,hz9⟩ : ∃ z : Option Addr,z = none := ⟨_,rfl⟩;obtain ⟨z8,hz8⟩ : ∃ z : Nat,z = 0 := ⟨_,rfl⟩;exact RgPost.mk q1 q2 z9 z8 rfl ⟨ovA,by rw [hq1];exact (by exact blA)⟩
        exact M2.tree_no
       case h2 =>
        intro q1 _ _ _ W6 hv;have O6 := hid hv.1;have B6 := hid hv.2;clear hv;have y1 := B6.out.cell 0 rfl;have y2 := B6.out.cell 1 rfl;have y3 := B6.out.cell 2 rfl;have y4 := B6.out.cell 3 rfl;have y5 := B6.out.cell 4 rfl;have y6 := B6.out.cell 5 rfl;have y7 := B6.out.cell 6 rfl;have y8 := B6.out.cell 7 rfl;have y9 := B6.out.cell 8 rfl;have yl := B6.out.lt;have O61 : Hid (∃ e,W6 = over w1 e) := hid (over_trans O5.out O6.out);have OW6 : Hid (OwnU w1.heap.size W6 (.slice (some ⟨g,0,none⟩) (m + 1) cv) (bs0 ++ [⟨F,⟨An,⟨Aft,Afv⟩,⟨Alt,Alv⟩,Amn,Amx,Ahi,Alo⟩⟩])) := hid (by obtain ⟨e,he⟩ := O6.out;rw [he];exact Own.over OW5.out e);obtain ⟨_,_,hg5,_,hg8,hc6,hf6⟩ := Own.open_ Bu.cs_len OW6.out (by simp);obtain ⟨hq1,hq3,hq2⟩ := Value.slice.inj hg5;cases hq1;have u := fun j z hj => hc6 m ⟨F,⟨An,⟨Aft,Afv⟩,⟨Alt,Alv⟩,Amn,Amx,Ahi,Alo⟩⟩ (by rw [List.getElem?_append_right (by rw [HM.out];exact Nat.le_refl _),HM.out,Nat.sub_self];rfl) j z hj;have v1 := u 1 _ rfl;have v2 := u 2 _ rfl;have v3 := u 3 _ rfl;have v4 := u 4 _ rfl;have v5 := u 5 _ rfl;have v6 := u 6 _ rfl;have v7 := u 7 _ rfl;have v8 := u 8 _ rfl;have v9 := u 9 _ rfl;have fg6 : ∀ j,W6.frozen? ⟨g,j,none⟩ = false := fun j => hf6 j;clear hg5 hq2 hq3 hc6 hf6 u;go_wp2;go_roundw
        case rel => exact ⟨k + 1,GS,K,by omega,by go_num,rfl,HLL.out,HNI.out,by rw [HGS.out];exact setBu_own OW6.out HM.out B,setBu_ov O61.out hg6 B⟩
        case measure => (simp [intOf];try omega)
   · obtain rfl : k = xs.length := by omega
     have HI := hid hI;have HOW := hid hown;have hml : (gs.map (buOf fr st)).length = gs.length := by simp
     obtain ⟨bs,hbs⟩ : ∃ bs,gs.map (buOf fr st) = bs := ⟨_,rfl⟩;rw [hbs] at hml hown HOW;obtain ⟨av,cv,rfl,_⟩ := Own.slice Bu.cs_len hown;have hbl : bs.length ≤ 900 := by omega
     have hd4 : decide (1000 < bs.length) = false := decide_eq_false (by omega);have hd5 : decide ((1000 : Int) < (bs.length : Int)) = false := decide_eq_false (by omega);have HBS := hid hbs;clear hI hown hL hml hbs;go_wp2;go_ret2
     refine ⟨(ovB O1.out),_,gs,rfl,HI.out,?_⟩;rw [HBS.out];refine Own.mono HOW.out ?_;obtain ⟨z,hz⟩ := O1.out;rw [hz];simp
theorem rsteps_no (base : Nat) (w : World) (p id : Nat) (fr to : Int) (st : Nat) (h : st = 0 ∨ to < fr) :
    Calls Tryz.prog 11 #[.pointer (some ⟨p,0,none⟩),.int .u32 (id : Nat),.agg #[.int .i64 fr,.int .i64 to],.int .u64 (st : Nat)] w (Ret w (.tuple #[.slice none 0 0,.int .i64 1])) := by
  by_cases h0 : st = 0
  · subst h0
    go_enter Tryz.func11,Tryz.ntmps11;go_wp2;go_ret2
    exact ⟨ovA,rfl⟩
  · have hs0 : ((st : Int) == 0) = false := by simp;omega
    have hd0 : decide (to < fr) = true := decide_eq_true (h.resolve_left h0);clear h h0
    go_enter Tryz.func11,Tryz.ntmps11;go_wp2;go_ret2
    exact ⟨ovA,rfl⟩
end
section
open Go.RowKit
theorem smp_eqD (d : Nat) (w : World) (a b a' b' : Int) : (Op.equalIn (d + 1 + 1) 34 (.agg #[.int .i64 a,.int .u64 b]) (.agg #[.int .i64 a',.int .u64 b'])).run Tryz.prog w = .ok (a == a' && b == b') w := by
 rw [run_equalIn_struct w (d + 1) 34 _ _ (by kernel_rfl) (by kernel_rfl)];have hf : (Tryz.prog.fieldsOf 34).toList.length = 2 := by kernel_rfl
 obtain ⟨f1,f2,hl⟩ : ∃ f1 f2,(Tryz.prog.fieldsOf 34).toList = [f1,f2] := by
  match h : (Tryz.prog.fieldsOf 34).toList,hf with
  | [x,y],_ => exact ⟨x,y,rfl⟩
 have hx : (Tryz.prog.fieldsOf 34).toList.map (fun f => (f.name,f.type,f.offset)) = [("T",2,0),("V",26,1)] := by kernel_rfl
 rw [hl] at hx ⊢;simp only [List.map_cons,List.map_nil,List.cons.injEq,Prod.mk.injEq,and_true] at hx;obtain ⟨⟨a1,a2,a3⟩,b1,b2,b3⟩ := hx;simp only [Op.eqFields,a1,a2,a3,b1,b2,b3];simp only [ne_eq,show ¬ ("T" = "_") by decide,show ¬ ("V" = "_") by decide,not_false_eq_true,if_true];have he1 : ∀ a b,(Op.equalIn (d + 1) 2 (.int .i64 a) (.int .i64 b)).run Tryz.prog w = .ok (a == b) w := fun a b => run_equalIn_int w d _ .i64 .i64 a b (by kernel_rfl);have he2 : ∀ a b,(Op.equalIn (d + 1) 26 (.int .u64 a) (.int .u64 b)).run Tryz.prog w = .ok (a == b) w := fun a b => run_equalIn_int w d _ .u64 .u64 a b (by kernel_rfl);have h0 : ∀ x y : Value,(part 2 #[x,y] 0).run Tryz.prog w = .ok x w := fun x y => run_part_plain w (by kernel_rfl) rfl;have h1 : ∀ x y : Value,(part 26 #[x,y] 1).run Tryz.prog w = .ok y w := fun x y => run_part_plain w (by kernel_rfl) rfl;by_cases ha : a = a' <;> by_cases hb : b = b' <;> simp [ha,hb,Sem.run_bind,h0,h1,Result.andThen_ok,he1,he2]
theorem smp_neq (w : World) (t v t' v' : Int) : (binOp .neq 34 (.agg #[.int .i64 t,.int .u64 v]) (.agg #[.int .i64 t',.int .u64 v'])).run Tryz.prog w = .ok (.bool (!(t == t' && v == v'))) w := by
 rw [run_neq_struct,smp_eqD 9998];rfl
theorem smp_eql (w : World) (t v t' v' : Int) : (binOp .eql 34 (.agg #[.int .i64 t,.int .u64 v]) (.agg #[.int .i64 t',.int .u64 v'])).run Tryz.prog w = .ok (.bool (t == t' && v == v')) w := by
 rw [run_eql_struct,smp_eqD 9998];rfl
theorem agg_eqD (d' : Nat) (w : World) (a b c d e f g h i : Int) : (Op.equalIn (d' + 1 + 1 + 1) 85 (.agg #[.int .u64 a,.int .i64 b,.int .u64 c,.int .i64 d,.int .u64 e,.int .u64 f,.int .u64 g,.int .u64 h,.int .u64 i]) (.agg #[.int .u64 a,.int .i64 b,.int .u64 c,.int .i64 d,.int .u64 e,.int .u64 f,.int .u64 g,.int .u64 h,.int .u64 i])).run Tryz.prog w = .ok true w := by
 rw [run_equalIn_struct w (d' + 1 + 1) 85 _ _ (by kernel_rfl) (by kernel_rfl)];have hf : (Tryz.prog.fieldsOf 85).toList.length = 7 := by kernel_rfl
 obtain ⟨f1,f2,f3,f4,f5,f6,f7,hl⟩ : ∃ f1 f2 f3 f4 f5 f6 f7,(Tryz.prog.fieldsOf 85).toList = [f1,f2,f3,f4,f5,f6,f7] := by
  match h : (Tryz.prog.fieldsOf 85).toList,hf with
  | [a,b,c,d,e,f,g],_ => exact ⟨a,b,c,d,e,f,g,rfl⟩
 have hx : (Tryz.prog.fieldsOf 85).toList.map (fun f => (f.name,f.type,f.offset)) = [("N",26,0),("First",34,1),("Last",34,3),("Min",26,5),("Max",26,6),("High",26,7),("Low",26,8)] := by kernel_rfl
 rw [hl] at hx ⊢;simp only [List.map_cons,List.map_nil,List.cons.injEq,Prod.mk.injEq,and_true] at hx;obtain ⟨⟨a1,a2,a3⟩,⟨b1,b2,b3⟩,⟨c1,c2,c3⟩,⟨d1,d2,d3⟩,⟨e1,e2,e3⟩,⟨g1,g2,g3⟩,i1,i2,i3⟩ := hx;simp only [Op.eqFields,a1,a2,a3,b1,b2,b3,c1,c2,c3,d1,d2,d3,e1,e2,e3,g1,g2,g3,i1,i2,i3];simp only [ne_eq,show ¬ ("N" = "_") by decide,show ¬ ("First" = "_") by decide,show ¬ ("Last" = "_") by decide,show ¬ ("Min" = "_") by decide,show ¬ ("Max" = "_") by decide,show ¬ ("High" = "_") by decide,show ¬ ("Low" = "_") by decide,not_false_eq_true,if_true];have he : ∀ a b,(Op.equalIn (d' + 1 + 1) 26 (.int .u64 a) (.int .u64 b)).run Tryz.prog w = .ok (a == b) w := fun a b => run_equalIn_int w (d' + 1) _ .u64 .u64 a b (by kernel_rfl);have hp : ∀ (xs : Array Value) (v : Value) (o : Nat),xs[o]? = some v → (part 26 xs o).run Tryz.prog w = .ok v w := fun xs v o h => run_part_plain w (by kernel_rfl) h;have hs1 : ∀ a b c d e f g h i : Value,(part 34 #[a,b,c,d,e,f,g,h,i] 1).run Tryz.prog w = .ok (.agg #[b,c]) w := fun a b c d e f g h i => by kernel_rfl
 have hs3 : ∀ a b c d e f g h i : Value,(part 34 #[a,b,c,d,e,f,g,h,i] 3).run Tryz.prog w = .ok (.agg #[d,e]) w := fun a b c d e f g h i => by kernel_rfl
 have h0 : ∀ a b c d e f g h i : Value,(part 26 #[a,b,c,d,e,f,g,h,i] 0).run Tryz.prog w = .ok a w := fun a b c d e f g h i => hp _ _ _ rfl;have h5 : ∀ a b c d e f g h i : Value,(part 26 #[a,b,c,d,e,f,g,h,i] 5).run Tryz.prog w = .ok f w := fun a b c d e f g h i => hp _ _ _ rfl;have h6 : ∀ a b c d e f g h i : Value,(part 26 #[a,b,c,d,e,f,g,h,i] 6).run Tryz.prog w = .ok g w := fun a b c d e f g h i => hp _ _ _ rfl;have h7 : ∀ a b c d e f g h i : Value,(part 26 #[a,b,c,d,e,f,g,h,i] 7).run Tryz.prog w = .ok h w := fun a b c d e f g h i => hp _ _ _ rfl;have h8 : ∀ a b c d e f g h i : Value,(part 26 #[a,b,c,d,e,f,g,h,i] 8).run Tryz.prog w = .ok i w := fun a b c d e f g h i => hp _ _ _ rfl;simp [Sem.run_bind,h0,h5,h6,h7,h8,hs1,hs3,Result.andThen_ok,he,smp_eqD d']
end
section
open Go.RowKit
attribute [local go_sem] odr cdr
theorem bu_neq (w : World) (z a b c d e f g h i : Int) : (binOp .neq 87 (.agg #[.int .i64 z,.int .u64 a,.int .i64 b,.int .u64 c,.int .i64 d,.int .u64 e,.int .u64 f,.int .u64 g,.int .u64 h,.int .u64 i]) (.agg #[.int .i64 z,.int .u64 a,.int .i64 b,.int .u64 c,.int .i64 d,.int .u64 e,.int .u64 f,.int .u64 g,.int .u64 h,.int .u64 i])).run Tryz.prog w = .ok (.bool false) w := by
 rw [run_neq_struct,run_equalIn_struct w 9999 87 _ _ (by kernel_rfl) (by kernel_rfl)];have hf : (Tryz.prog.fieldsOf 87).toList.length = 2 := by kernel_rfl
 obtain ⟨f1,f2,hl⟩ : ∃ f1 f2,(Tryz.prog.fieldsOf 87).toList = [f1,f2] := by
  match h : (Tryz.prog.fieldsOf 87).toList,hf with
  | [x,y],_ => exact ⟨x,y,rfl⟩
 have hx : (Tryz.prog.fieldsOf 87).toList.map (fun f => (f.name,f.type,f.offset)) = [("From",2,0),("Agg",85,1)] := by kernel_rfl
 rw [hl] at hx ⊢;simp only [List.map_cons,List.map_nil,List.cons.injEq,Prod.mk.injEq,and_true] at hx;obtain ⟨⟨a1,a2,a3⟩,b1,b2,b3⟩ := hx;simp only [Op.eqFields,a1,a2,a3,b1,b2,b3];have hu : Tryz.prog.underlying 2 = some (.int .i64) := by kernel_rfl
 have hp : (part 2 #[.int .i64 z,.int .u64 a,.int .i64 b,.int .u64 c,.int .i64 d,.int .u64 e,.int .u64 f,.int .u64 g,.int .u64 h,.int .u64 i] 0).run Tryz.prog w = .ok (.int .i64 z) w := run_part_plain w (by kernel_rfl) rfl;have hq : (part 85 #[.int .i64 z,.int .u64 a,.int .i64 b,.int .u64 c,.int .i64 d,.int .u64 e,.int .u64 f,.int .u64 g,.int .u64 h,.int .u64 i] 1).run Tryz.prog w = .ok (.agg #[.int .u64 a,.int .i64 b,.int .u64 c,.int .i64 d,.int .u64 e,.int .u64 f,.int .u64 g,.int .u64 h,.int .u64 i]) w := by kernel_rfl
 have he : (Op.equalIn 9999 2 (.int .i64 z) (.int .i64 z)).run Tryz.prog w = .ok (z == z) w := run_equalIn_int w 9998 _ .i64 .i64 z z hu;have ha := agg_eqD 9996 w a b c d e f g h i;simp only [ne_eq,show ¬ ("From" = "_") by decide,show ¬ ("Agg" = "_") by decide,not_false_eq_true,if_true];simp [Sem.run_bind,hp,hq,Result.andThen_ok,he,ha]
attribute [local go_sem high] bu_neq
theorem sameBu_any (bs : List Bu) (hl : bs.length ≤ 100000) (a b : Option Addr) (c d : Nat) (w : World) (h1 : Sl 10 Bu.cs w a c bs) (h2 : Sl 10 Bu.cs w b d bs) :
    Calls Tryz.prog 15 #[.slice a bs.length c,.slice b bs.length d] w (Ret w (.bool true)) := by
  go_enter Tryz.func15,Tryz.ntmps15;go_wp2
  go_loopw [5] (fun i wr => ∃ k : Nat,k ≤ bs.length ∧ i = .int .i64 (k : Nat) ∧ Ov w wr) (fun i _ => bs.length - (intOf i).toNat)
  case atStart => exact ⟨0,Nat.zero_le _,rfl,ovA⟩
  case round =>
   obtain ⟨k,hk,rfl,⟨e0,rfl⟩⟩ := hrel;by_cases hlt : k < bs.length
   · obtain ⟨ub,uo,rfl,hub,u0,u1,u2,u3,u4,u5,u6,u7,u8,u9⟩ := SlU.at2 h1 hlt;obtain ⟨vb,vo,rfl,hvb,v0,v1,v2,v3,v4,v5,v6,v7,v8,v9⟩ := SlU.at2 h2 hlt;obtain ⟨⟨F,⟨An,⟨Aft,Afv⟩,⟨Alt,Alv⟩,Amn,Amx,Ahi,Alo⟩⟩,hx⟩ : ∃ x,bs[k]'hlt = x := ⟨_,rfl⟩;rw [hx] at u0 u1 u2 u3 u4 u5 u6 u7 u8 u9 v0 v1 v2 v3 v4 v5 v6 v7 v8 v9;simp only at u0 u1 u2 u3 u4 u5 u6 u7 u8 u9 v0 v1 v2 v3 v4 v5 v6 v7 v8 v9;have hd : decide (k < bs.length) = true := decide_eq_true hlt;clear hx h1 h2;go_wp2;refine wro (by kernel_rfl) (by kernel_rfl) ?_;repeat (go_big_quiet_step ((fail)))
     refine wpQuiet_nil ?_;intro _ hw';obtain ⟨nq,rfl⟩ := hw';go_wp2;go_roundw
     case rel => exact ⟨k + 1,by omega,by go_num,ovA⟩
     case measure => (simp [intOf];try omega)
   · obtain rfl : k = bs.length := by omega
     clear h1 h2;go_wp2;go_ret
     exact ⟨ovA,rfl⟩
end
end Go.Proofs.YtoolooffpphmdaaGreatDoor
