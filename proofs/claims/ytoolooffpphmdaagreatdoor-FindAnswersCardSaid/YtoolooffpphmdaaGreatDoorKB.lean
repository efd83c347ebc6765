import Derived.Test.YtoolooffpphmdaaGreatDoorKA
import Derived.Test.YtoolooffpphmdaaGreatDoorGF
import Derived.Test.YtoolooffpphmdaaGreatDoorGA
import Derived.Laws.Externs
import Derived.Test.YtoolooffpphmdaaGreatDoorGB
import Derived.Test.YtoolooffpphmdaaGreatDoorHE
import Derived.Test.YtoolooffpphmdaaGreatDoorBak
namespace Go.Proofs.YtoolooffpphmdaaGreatDoor
set_option linter.unusedVariables false
set_option linter.unusedSimpArgs false
set_option maxRecDepth 100000
set_option maxHeartbeats 4000000
section
open Go.RowKit
attribute [local go_sem] odr cdr
def Ag.cs (a : Ag) : List Value := [.int .u64 (a.n : Nat),.int .i64 a.f.t,.int .u64 (a.f.v : Nat),.int .i64 a.l.t,.int .u64 (a.l.v : Nat),.int .u64 (a.mn : Nat),.int .u64 (a.mx : Nat),.int .u64 (a.hi : Nat),.int .u64 (a.lo : Nat)]
abbrev Ag.v (a : Ag) : Value := .agg #[.int .u64 (a.n : Nat),.int .i64 a.f.t,.int .u64 (a.f.v : Nat),.int .i64 a.l.t,.int .u64 (a.l.v : Nat),.int .u64 (a.mn : Nat),.int .u64 (a.mx : Nat),.int .u64 (a.hi : Nat),.int .u64 (a.lo : Nat)]
theorem add64_run (x y c : Nat) (hx : x < 18446744073709551616) (hy : y < 18446744073709551616) (hc : c ≤ 1) (w : World) :
    (callFunc 112 #[.int .u64 (x : Nat),.int .u64 (y : Nat),.int .u64 (c : Nat)]).run Tryz.prog w =
      .ok (.value (.tuple #[.int .u64 (((x + y + c) % 18446744073709551616 : Nat) : Int),.int .u64 (((x + y + c) / 18446744073709551616 : Nat) : Int)])) w := by
  rw [run_callFunc_extern Tryz.func112 (by kernel_rfl) (by kernel_rfl) (by kernel_rfl) (e := add64Entry) (by kernel_rfl),run_add64 x y c (by omega) (by omega) (by omega) (by omega)];simp only [Result.andThen]
  congr 5 <;> omega
theorem one_any (x : Sm) (w : World) : Calls Tryz.prog 79 #[.agg #[.int .i64 x.t,.int .u64 (x.v : Nat)]] w (Ret w (Ag.v ⟨1,x,x,x.v,x.v,0,x.v⟩)) := by
 go_enter Tryz.func79,Tryz.ntmps79;go_wp2
 (try simp only [Exit.inBlock,Exit.then])
 refine bodyPost_ret (v := ?rv105) ?rh105 rfl ?rp105
 case rh105 => (simp only [results,show Tryz.f79.results = #[.cell 2 85] from rfl];go_simp;rfl)
 exact ⟨ovA,rfl⟩
structure AgOk (a b : Ag) : Prop where
 n : a.n + b.n < 18446744073709551616
 lo : a.lo < 18446744073709551616 ∧ b.lo < 18446744073709551616
 hi : a.hi + b.hi + 1 < 18446744073709551616
 ord : a.n = 0 ∨ b.n = 0 ∨ a.l.t < b.f.t
theorem join_any (a b : Ag) (h : AgOk a b) (w : World) : Calls Tryz.prog 78 #[a.v,b.v] w (Ret w (.tuple #[(agJ a b).v,.int .u16 0])) := by
 obtain ⟨an,⟨aft,afv⟩,⟨alt,alv⟩,amn,amx,ahi,alo⟩ := a;obtain ⟨bn,⟨bft,bfv⟩,⟨blt,blv⟩,bmn,bmx,bhi,blo⟩ := b;obtain ⟨h1,⟨h2,h3⟩,h4,h5⟩ := h;simp only at h1 h2 h3 h4 h5;by_cases ha : an = 0
 · subst ha;have e : agJ ⟨0,⟨aft,afv⟩,⟨alt,alv⟩,amn,amx,ahi,alo⟩ ⟨bn,⟨bft,bfv⟩,⟨blt,blv⟩,bmn,bmx,bhi,blo⟩ = ⟨bn,⟨bft,bfv⟩,⟨blt,blv⟩,bmn,bmx,bhi,blo⟩ := rfl;rw [e];clear e
   go_enter Tryz.func78,Tryz.ntmps78;go_wp2
   (try simp only [Exit.inBlock,Exit.then])
   refine bodyPost_ret (v := ?rv106) ?rh106 rfl ?rp106
   case rh106 => (simp only [results,show Tryz.f78.results = #[.cell 4 85,.tmp 5] from rfl];go_simp;rfl)
   exact ⟨ovA,rfl⟩
 · have ha2 : ((an : Int) == 0) = false := by simpa using ha
   by_cases hb : bn = 0
   · subst hb;have e : agJ ⟨an,⟨aft,afv⟩,⟨alt,alv⟩,amn,amx,ahi,alo⟩ ⟨0,⟨bft,bfv⟩,⟨blt,blv⟩,bmn,bmx,bhi,blo⟩ = ⟨an,⟨aft,afv⟩,⟨alt,alv⟩,amn,amx,ahi,alo⟩ := by unfold agJ;rw [if_neg ha,if_pos rfl]
     rw [e];clear e h5
     go_enter Tryz.func78,Tryz.ntmps78;go_wp2
     (try simp only [Exit.inBlock,Exit.then])
     refine bodyPost_ret (v := ?rv107) ?rh107 rfl ?rp107
     case rh107 => (simp only [results,show Tryz.f78.results = #[.cell 4 85,.tmp 5] from rfl];go_simp;rfl)
     exact ⟨ovA,rfl⟩
   · have hb2 : ((bn : Int) == 0) = false := by simpa using hb
     have ho : alt < bft := by omega
     have hd : decide (bft ≤ alt) = false := decide_eq_false (by omega);have e : agJ ⟨an,⟨aft,afv⟩,⟨alt,alv⟩,amn,amx,ahi,alo⟩ ⟨bn,⟨bft,bfv⟩,⟨blt,blv⟩,bmn,bmx,bhi,blo⟩ = ⟨an + bn,⟨aft,afv⟩,⟨blt,blv⟩,min amn bmn,max amx bmx,ahi + bhi + (alo + blo) / 18446744073709551616,(alo + blo) % 18446744073709551616⟩ := by unfold agJ;rw [if_neg ha,if_neg hb]
     rw [e];have A1 := hid (fun W => add64_run alo blo 0 h2 h3 (by omega) W);have hc1 : (alo + blo + 0) / 18446744073709551616 ≤ 1 := by omega
     have A2 := hid (fun W => add64_run ahi bhi ((alo + blo + 0) / 18446744073709551616) (by omega) (by omega) hc1 W);have hhi : (ahi + bhi + (alo + blo + 0) / 18446744073709551616) % 18446744073709551616 = ahi + bhi + (alo + blo + 0) / 18446744073709551616 := Nat.mod_eq_of_lt (by omega);rw [hhi] at A2;rw [Nat.add_zero] at A1 A2 hc1;obtain ⟨lo,hlo⟩ : ∃ x,(alo + blo) % 18446744073709551616 = x := ⟨_,rfl⟩;obtain ⟨c,hc⟩ : ∃ x,(alo + blo) / 18446744073709551616 = x := ⟨_,rfl⟩;obtain ⟨mn,hmn⟩ : ∃ x,min amn bmn = x := ⟨_,rfl⟩;obtain ⟨mx,hmx⟩ : ∃ x,max amx bmx = x := ⟨_,rfl⟩;have hmn2 : min (amn : Int) (bmn : Int) = (mn : Int) := by omega
     have hmx2 : max (amx : Int) (bmx : Int) = (mx : Int) := by omega
     rw [hlo] at A1 ⊢;rw [hc] at A1 A2 hc1 ⊢;rw [hmn,hmx];obtain ⟨hi,hhi2⟩ : ∃ x,ahi + bhi + c = x := ⟨_,rfl⟩;rw [hhi2] at A2 ⊢;have hn : IntKind.u64.wrap ((an : Int) + (bn : Int)) = (((an + bn : Nat)) : Int) := by rw [IntKind.wrap_u64];omega
     have A0 : Hid (∀ W,(callFunc 112 #[.int .u64 (alo : Nat),.int .u64 (blo : Nat),.int .u64 0]).run Tryz.prog W = .ok (.value (.tuple #[.int .u64 (lo : Nat),.int .u64 (c : Nat)])) W) := A1;clear e hhi hlo hc hmn hmx hhi2 h5 hc1 A1
     go_enter Tryz.func78,Tryz.ntmps78;go_wp2_with (first | (simp only [A0.out]) | (simp only [A2.out]))
     refine M2.wrz (fun w' => ∃ u : Value,w' = (((w.alloc (.cells #[.int .u64 ((an : Int) + (bn : Int)),.int .i64 aft,.int .u64 (afv : Nat),.int .i64 blt,.int .u64 (blv : Nat),u,.int .u64 (amx : Nat),.int .u64 (hi : Nat),.int .u64 (lo : Nat)] 85)).alloc (.cells #[.int .u64 (bn : Nat),.int .i64 bft,.int .u64 (bfv : Nat),.int .i64 blt,.int .u64 (blv : Nat),.int .u64 (bmn : Nat),.int .u64 (bmx : Nat),.int .u64 (bhi : Nat),.int .u64 (blo : Nat)] 85)).alloc (.cells #[.int .u64 0,.int .i64 0,.int .u64 0,.int .i64 0,.int .u64 0,.int .u64 0,.int .u64 0,.int .u64 0,.int .u64 0] 85)).drew) [1,11,13] 13 (by kernel_rfl) (by kernel_rfl) (by decide) (⟨_,rfl⟩) ?_;simp only [M2.td];with_reducible refine M2.mlq 1 (by kernel_rfl) ?_
     simp only [M2.td];repeat (go_big_quiet_step (fail))
     refine wpQuiet_nil ?_;refine M2.mle (by decide) ?_;go_wp2_with (fail)
     refine M2.MixQ.mk ⟨_,rfl⟩ ?_;with_reducible refine M2.mlq 9 (by kernel_rfl) ?_
     simp only [M2.td];repeat (go_big_quiet_step (fail))
     refine wpQuiet_nil ?_;refine M2.mle (by decide) ?_;go_wp2_with (fail)
     refine M2.MixQ.mk ⟨_,rfl⟩ ?_;with_reducible refine M2.mlq 1 (by kernel_rfl) ?_
     simp only [M2.td];repeat (go_big_quiet_step (fail))
     refine wpQuiet_nil ?_;refine M2.mln ?_;refine M2.mle (by decide) ?_;go_wp2_with (fail)
     refine M2.MixQ.mk trivial ?_;refine M2.mln ?_;go_wp2
     (try simp only [Exit.inBlock,Exit.then])
     refine bodyPost_ret (v := ?rv108) ?rh108 rfl ?rp108
     case rh108 => (simp only [results,show Tryz.f78.results = #[.cell 4 85,.tmp 5] from rfl];go_simp;rfl)
     exact ⟨ovA,rfl⟩
end
section
open Go.RowKit
attribute [local go_sem] odr cdr
theorem sumV_le {l : List Sm} (h : ∀ x ∈ l,x.v < 18446744073709551616) : sumV l ≤ l.length * 18446744073709551615 := by
 induction l with
 | nil => simp [sumV]
 | cons x l ih =>
  have h1 := ih (fun y hy => h y (by simp [hy]));have h2 := h x (by simp);unfold sumV at *;simp only [List.map_cons,List.sum_cons,List.length_cons];omega
theorem agC_bd {l : List Sm} (h : ∀ x ∈ l,x.v < 18446744073709551616) : (agC l).lo < 18446744073709551616 ∧ (agC l).hi ≤ l.length ∧ (agC l).n = l.length := by
 cases l with
 | nil => simp [agC,Ag.zero]
 | cons x l =>
  have h1 := sumV_le h;rw [List.length_cons] at h1;obtain ⟨s,hs⟩ : ∃ s,sumV (x :: l) = s := ⟨_,rfl⟩;rw [hs] at h1;refine ⟨?_,?_,rfl⟩
  · show sumV (x :: l) % 18446744073709551616 < _
    omega
  · show sumV (x :: l) / 18446744073709551616 ≤ l.length + 1
    rw [hs];omega
theorem agC_l {l : List Sm} (h : l ≠ []) : (agC l).l = l.getLast h := by
 cases l with
 | nil => exact absurd rfl h
 | cons x l => rfl
theorem ag_step {l : List Sm} (hr : RiseL l) (hw : ∀ x ∈ l,x.v < 18446744073709551616) (hl : l.length ≤ 100000) {k : Nat} (hk : k < l.length) :
    AgOk (agC (l.take k)) ⟨1,l[k],l[k],l[k].v,l[k].v,0,l[k].v⟩ ∧ agJ (agC (l.take k)) ⟨1,l[k],l[k],l[k].v,l[k].v,0,l[k].v⟩ = agC (l.take (k + 1)) := by
  have hv := hw _ (List.getElem_mem hk);obtain ⟨b1,b2,b3⟩ := agC_bd (l := l.take k) (fun x hx => hw x (List.mem_of_mem_take hx));have hlt : (l.take k).length = k := by simp;omega
  rw [hlt] at b2 b3;refine ⟨⟨by show (agC (l.take k)).n + 1 < _;omega,⟨b1,hv⟩,by show (agC (l.take k)).hi + 0 + 1 < _;omega,?_⟩,?_⟩
  · rcases Nat.eq_zero_or_pos k with h0 | h0
    · left;omega
    · right;right
      have hne : l.take k ≠ [] := fun e => by rw [e] at hlt;simp at hlt;omega
      rw [agC_l hne];have hg : (l.take k).getLast hne = l[k - 1]'(by omega) := by
       rw [List.getLast_eq_getElem,List.getElem_take]
       congr 1
       omega
      rw [hg];exact (List.pairwise_iff_getElem.1 hr) (k - 1) k (by omega) hk (by omega)
  · rw [← agC_one l[k] hv,agJ_agC,List.take_succ_eq_append_getElem hk]
theorem setAg_blk {w : World} {p : Nat} {B : Ag} {t : TypeId} (h : Blk w p B.cs t) (A : Ag) : Blk (((((((((w.setCell ⟨p,0,none⟩ (.int .u64 (A.n : Nat))).setCell ⟨p,1,none⟩ (.int .i64 A.f.t)).setCell ⟨p,2,none⟩ (.int .u64 (A.f.v : Nat))).setCell ⟨p,3,none⟩ (.int .i64 A.l.t)).setCell ⟨p,4,none⟩ (.int .u64 (A.l.v : Nat))).setCell ⟨p,5,none⟩ (.int .u64 (A.mn : Nat))).setCell ⟨p,6,none⟩ (.int .u64 (A.mx : Nat))).setCell ⟨p,7,none⟩ (.int .u64 (A.hi : Nat))).setCell ⟨p,8,none⟩ (.int .u64 (A.lo : Nat))) p A.cs t :=
 ((((((((h.set 0 _).set 1 _).set 2 _).set 3 _).set 4 _).set 5 _).set 6 _).set 7 _).set 8 _
theorem setAg_ne {w : World} {p q : Nat} {cs : List Value} {t : TypeId} (h : Blk w q cs t) (hq : q ≠ p) (A : Ag) : Blk (((((((((w.setCell ⟨p,0,none⟩ (.int .u64 (A.n : Nat))).setCell ⟨p,1,none⟩ (.int .i64 A.f.t)).setCell ⟨p,2,none⟩ (.int .u64 (A.f.v : Nat))).setCell ⟨p,3,none⟩ (.int .i64 A.l.t)).setCell ⟨p,4,none⟩ (.int .u64 (A.l.v : Nat))).setCell ⟨p,5,none⟩ (.int .u64 (A.mn : Nat))).setCell ⟨p,6,none⟩ (.int .u64 (A.mx : Nat))).setCell ⟨p,7,none⟩ (.int .u64 (A.hi : Nat))).setCell ⟨p,8,none⟩ (.int .u64 (A.lo : Nat))) q cs t :=
 Blk.set_ne (Blk.set_ne (Blk.set_ne (Blk.set_ne (Blk.set_ne (Blk.set_ne (Blk.set_ne (Blk.set_ne (Blk.set_ne h hq _) hq _) hq _) hq _) hq _) hq _) hq _) hq _) hq _
theorem setAg_ov {w0 w : World} {p : Nat} (h : ∃ e,w = over w0 e) (hp : w0.heap.size ≤ p) (A : Ag) : ∃ e,(((((((((w.setCell ⟨p,0,none⟩ (.int .u64 (A.n : Nat))).setCell ⟨p,1,none⟩ (.int .i64 A.f.t)).setCell ⟨p,2,none⟩ (.int .u64 (A.f.v : Nat))).setCell ⟨p,3,none⟩ (.int .i64 A.l.t)).setCell ⟨p,4,none⟩ (.int .u64 (A.l.v : Nat))).setCell ⟨p,5,none⟩ (.int .u64 (A.mn : Nat))).setCell ⟨p,6,none⟩ (.int .u64 (A.mx : Nat))).setCell ⟨p,7,none⟩ (.int .u64 (A.hi : Nat))).setCell ⟨p,8,none⟩ (.int .u64 (A.lo : Nat))) = over w0 e :=
 exs (exs (exs (exs (exs (exs (exs (exs (exs h hp _) hp _) hp _) hp _) hp _) hp _) hp _) hp _) hp _
theorem aggof_any (xs : List Sm) (hr : RiseL xs) (hw : ∀ x ∈ xs,x.v < 18446744073709551616) (hl : xs.length ≤ 100000) (a : Option Addr) (cap : Nat) (w : World) (hs : SlM w a cap xs) :
    Calls Tryz.prog 41 #[.slice a xs.length cap] w (Ret w (.tuple #[(agC xs).v,.int .u16 0])) := by
  have HO := hid (fun x W => one_any x W);have HST := hid (fun k hk => ag_step hr hw hl (k := k) hk);clear hr hw
  go_enter Tryz.func41,Tryz.ntmps41;go_wp2
  go_loopw [6,7,10] (fun _ _ i wr => ∃ k : Nat,k ≤ xs.length ∧ i = .int .i64 (k : Nat) ∧ Blk wr (w.heap.size + 1) (agC (xs.take k)).cs 85 ∧ Blk wr w.heap.size Ag.zero.cs 85 ∧ Ov w wr) (fun _ _ i _ => xs.length - (intOf i).toNat)
  case atStart => exact ⟨0,Nat.zero_le _,rfl,Blk.new' (by simp),Blk.alloc (Blk.new' rfl) _,ovA⟩
  case round =>
   obtain ⟨k,hk,rfl,hB,hZ,hov⟩ := hrel;have O1 : Hid (∃ e,wr = over w e) := hid hov;have HB := hid hB;have HZ := hid hZ;obtain ⟨A,hA⟩ : ∃ A,agC (xs.take k) = A := ⟨_,rfl⟩;rw [hA] at hB HB;have r0 := hB.cell 0 rfl;have r1 := hB.cell 1 rfl;have r2 := hB.cell 2 rfl;have r3 := hB.cell 3 rfl;have r4 := hB.cell 4 rfl;have r5 := hB.cell 5 rfl;have r6 := hB.cell 6 rfl;have r7 := hB.cell 7 rfl;have r8 := hB.cell 8 rfl;have bl := hB.lt;have bf : ∀ j,wr.frozen? ⟨w.heap.size + 1,j,none⟩ = false := fun j => hB.free j;have zf : ∀ j,wr.frozen? ⟨w.heap.size,j,none⟩ = false := fun j => hZ.free j;have zl := hZ.lt;have z0 := hZ.cell 0 rfl;have z1 := hZ.cell 1 rfl;have z2 := hZ.cell 2 rfl;have z3 := hZ.cell 3 rfl;have z4 := hZ.cell 4 rfl;have z5 := hZ.cell 5 rfl;have z6 := hZ.cell 6 rfl;have z7 := hZ.cell 7 rfl;have z8 := hZ.cell 8 rfl;have HA := hid hA;obtain ⟨An,⟨Aft,Afv⟩,⟨Alt,Alv⟩,Amn,Amx,Ahi,Alo⟩ := A;simp only at r0 r1 r2 r3 r4 r5 r6 r7 r8;by_cases hlt : k < xs.length
   · obtain ⟨cb,co,rfl,hcb,q0,q1⟩ := SlM.at_ (Sl.ov hs hov) hlt;obtain ⟨h1,h2⟩ := HST.out k hlt;obtain ⟨x,hx⟩ : ∃ x,xs[k]'hlt = x := ⟨_,rfl⟩;rw [hx] at q0 q1 h1 h2;rw [hA] at h1 h2;have HJ := hid (fun W => join_any _ _ h1 W);rw [h2] at HJ;obtain ⟨A',hA'⟩ : ∃ A,agC (xs.take (k + 1)) = A := ⟨_,rfl⟩;rw [hA'] at HJ;have HA' := hid hA';have hdl : decide (k < xs.length) = true := decide_eq_true hlt;clear hov hB hZ h1 h2 hx hA hA' z0 z1 z2 z3 z4 z5 z6 z7 z8;go_wp2;refine M2.wrm [2,3,7] 6 (by kernel_rfl) (by kernel_rfl) (by decide) ?_;simp only [M2.td];with_reducible refine M2.mlq 2 (by kernel_rfl) ?_
     simp only [M2.td];repeat (go_big_quiet_step (fail))
     refine wpQuiet_nil ?_;refine M2.mle (by decide) ?_;go_wp2_with ((go_at_call 79;(with_reducible refine (HO.out _ _).mono ?_);rintro _ _ ⟨⟨e1,rfl⟩,rfl⟩))
     refine M2.MixQ.mk ovA ?_;refine M2.mle (by decide) ?_;go_wp2_with ((go_at_call 78;(with_reducible refine (HJ.out _).mono ?_);rintro _ _ ⟨⟨e2,rfl⟩,rfl⟩))
     refine M2.MixQ.mk ovA ?_;with_reducible refine M2.mlq 2 (by kernel_rfl) ?_
     simp only [M2.td];repeat (go_big_quiet_step (fail))
     refine wpQuiet_nil ?_;refine M2.mln ?_;with_reducible refine M2.mlq 1 (by kernel_rfl) ?_
     simp only [M2.td];repeat (go_big_quiet_step (fail))
     refine wpQuiet_nil ?_;refine M2.mle (by decide) ?_;go_wp2_with (fail)
     refine M2.MixQ.mk trivial ?_;with_reducible refine M2.mlq 1 (by kernel_rfl) ?_
     simp only [M2.td];repeat (go_big_quiet_step (fail))
     refine wpQuiet_nil ?_;refine M2.mln ?_;go_wp2;go_roundw
     case rel => exact ⟨k + 1,by omega,by go_num,by rw [HA'.out];exact Blk.on (Blk.on (Blk.alloc (setAg_blk HB.out A') _) _) _,Blk.on (Blk.on (Blk.alloc (setAg_ne HZ.out (by omega) A') _) _) _,ex_into (ex_into (ex_alloc (setAg_ov O1.out (by omega) A') _) _) _⟩
     case measure => (simp [intOf];try omega)
   · obtain rfl : k = xs.length := by omega
     have hA2 : agC xs = ⟨An,⟨Aft,Afv⟩,⟨Alt,Alv⟩,Amn,Amx,Ahi,Alo⟩ := by rw [← hA,List.take_length]
     have HA2 := hid hA2;clear hov hB hZ hA hA2;go_wp2
     (try simp only [Exit.inBlock,Exit.then])
     refine bodyPost_ret (v := ?rv109) ?rh109 rfl ?rp109
     case rh109 => (simp only [results,show Tryz.f41.results = #[.cell 2 85,.tmp 3] from rfl];go_simp;rfl)
     exact ⟨(ovB O1.out),by rw [HA2.out]⟩
end
section
open Go.RowKit
attribute [local go_sem] odr cdr
theorem dif_wrap {a b : Int} (h : b ≤ a) (ha : -9223372036854775808 ≤ a ∧ a ≤ 9223372036854775807) (hb : -9223372036854775808 ≤ b ∧ b ≤ 9223372036854775807) : IntKind.u64.wrap (wrap64 (a - b)) = ((a - b).toNat : Int) := by
 rw [IntKind.wrap_u64];unfold wrap64;omega
theorem stepc_any (x : Sm) (fr to : Int) (st k : Nat) (p6 p7 p12 : Nat) (w : World) (h6 : Blk w p6 [.int .i64 fr,.int .i64 to] 25) (h7 : Blk w p7 [.int .u64 (st : Nat)] 26) (h12 : Blk w p12 [.int .u64 (k : Nat)] 26) (hst : 0 < st) (hf : fr ≤ x.t) (h1 : -9223372036854775808 ≤ fr ∧ fr ≤ 9223372036854775807) (h2 : -9223372036854775808 ≤ x.t ∧ x.t ≤ 9223372036854775807) :
    Calls Tryz.prog 40 #[.agg #[.int .i64 x.t,.int .u64 (x.v : Nat)],.pointer (some ⟨p6,0,none⟩),.pointer (some ⟨p7,0,none⟩),.pointer (some ⟨p12,0,none⟩)] w (Ret w (.bool (keyB fr st x != k))) := by
  have hd := dif_wrap hf h2 h1;unfold keyB;obtain ⟨d,hd0⟩ : ∃ d,(x.t - fr).toNat = d := ⟨_,rfl⟩;rw [hd0] at hd ⊢;have hdb : d < 18446744073709551616 := by omega
  have hqb : d / st ≤ d := Nat.div_le_self _ _;have hq : IntKind.u64.wrap ((d : Int) / (st : Int)) = ((d / st : Nat) : Int) := by
   have hz : (d : Int) / (st : Int) = ((d / st : Nat) : Int) := (Int.natCast_ediv d st).symm;rw [hz];obtain ⟨q,hq0⟩ : ∃ q,d / st = q := ⟨_,rfl⟩;rw [hq0] at hqb ⊢;rw [IntKind.wrap_u64];clear hz hq0;omega
  obtain ⟨q,hq0⟩ : ∃ q,d / st = q := ⟨_,rfl⟩;rw [hq0] at hq ⊢;have hB : ((q : Int) != (k : Int)) = (q != k) := by rw [Bool.eq_iff_iff];simp;omega
  have a0 := h6.cell 0 rfl;have al := h6.lt;have b0 := h7.cell 0 rfl;have bl := h7.lt;have c0 := h12.cell 0 rfl;have cl := h12.lt;have hst0 : ((st : Int) == 0) = false := by simp;omega
  have hs2 : st ≠ 0 := by omega
  clear hd0 h6 h7 h12 hf h1 h2 hq0 hdb hqb
  go_enter Tryz.func40,Tryz.ntmps40;go_wp2;refine wro (by kernel_rfl) (by kernel_rfl) ?_;repeat (go_big_quiet_step ((fail)))
  refine wpQuiet_nil ?_;intro _ hw';obtain ⟨nq,rfl⟩ := hw';go_wp2;go_ret
  exact ⟨ovA,by first | rfl | (rw [← hB];rfl) | simp⟩
def idxF (p : Sm → Bool) (xs : List Sm) : Int := match xs.findIdx? p with
 | some i => (i : Nat)
 | none => -1
theorem idxF_yes {p : Sm → Bool} {xs : List Sm} {k : Nat} (hk : k < xs.length) (hb : ∀ j,(h : j < k) → p (xs[j]'(by omega)) = false) (h : p xs[k] = true) : idxF p xs = (k : Nat) := by
 unfold idxF;rw [List.findIdx?_eq_some_iff_getElem.2 ⟨hk,h,fun j hj => by simp [hb j hj]⟩]
theorem idxF_no {p : Sm → Bool} {xs : List Sm} (hb : ∀ j,(h : j < xs.length) → p xs[j] = false) : idxF p xs = -1 := by
 unfold idxF;rw [List.findIdx?_eq_none_iff.2 (fun x hx => by obtain ⟨j,hj,rfl⟩ := List.getElem_of_mem hx;simp [hb j hj])]
theorem indexf_any (xs : List Sm) (hl : xs.length ≤ 1000000) (p : Sm → Bool) (c1 c2 c3 : Value) (a : Option Addr) (cap : Nat) (w : World) (hs : SlM w a cap xs)
    (hp : ∀ (k : Nat) (hk : k < xs.length) W,(∃ e,W = over w e) → Calls Tryz.prog 40 #[.agg #[.int .i64 xs[k].t,.int .u64 (xs[k].v : Nat)],c1,c2,c3] W (Ret W (.bool (p xs[k])))) :
    Calls Tryz.prog 39 #[.slice a xs.length cap,.func (.func 40) #[] #[c1,c2,c3]] w (Ret w (.int .i64 (idxF p xs))) := by
  have HP := hid hp;have HY := hid (fun k hk => idxF_yes (p := p) (xs := xs) (k := k) hk);have HN := hid (idxF_no (p := p) (xs := xs));obtain ⟨R,hR⟩ : ∃ R,idxF p xs = R := ⟨_,rfl⟩;rw [hR] at HN ⊢;simp only [hR] at HY;clear hp hR
  go_enter Tryz.func39,Tryz.ntmps39;go_wp2
  go_loopw [5,8] (fun _ i wr => ∃ k : Nat,k ≤ xs.length ∧ i = .int .i64 (k : Nat) ∧ (∀ j,j < k → ∀ h : j < xs.length,p xs[j] = false) ∧ Ov w wr) (fun _ i _ => xs.length - (intOf i).toNat)
  case atStart => exact ⟨0,Nat.zero_le _,rfl,fun j hj => absurd hj (by omega),ovA⟩
  case round =>
   obtain ⟨k,hk,rfl,hbef,hov⟩ := hrel;have O1 : Hid (∃ e,wr = over w e) := hid hov;have HBF := hid hbef;clear hbef;by_cases hlt : k < xs.length
   · obtain ⟨cb,co,rfl,hcb,q0,q1⟩ := SlM.at_ (Sl.ov hs hov) hlt;have HC := hid (HP.out k hlt);have HYK := hid (HY.out k hlt);have hdl : decide (k < xs.length) = true := decide_eq_true hlt;have HST : Hid (p xs[k] = false → ∀ j,j < k + 1 → ∀ h : j < xs.length,p xs[j] = false) := hid (fun hf j hj h => by
      rcases Nat.lt_or_ge j k with h1 | h1
      · exact HBF.out j h1 h
      · obtain rfl : j = k := by omega
        exact hf)
     have HYK2 : Hid (p xs[k] = true → R = (k : Nat)) := hid (fun ht => HYK.out (fun j hj => HBF.out j hj (by omega)) ht);obtain ⟨x,hx⟩ : ∃ x,xs[k]'hlt = x := ⟨_,rfl⟩;rw [hx] at q0 q1 HC HST HYK2;obtain ⟨B,hB⟩ : ∃ B,p x = B := ⟨_,rfl⟩;rw [hB] at HC HST HYK2;clear hov HYK hx hB;cases B with
     | true =>
      go_wp2_with (go_at_call 40;(with_reducible refine (HC.out _ (ovB O1.out)).mono ?_);rintro _ _ ⟨⟨e1,rfl⟩,rfl⟩)
      go_ret
      exact ⟨(ovB O1.out),congrArg (fun z => Ending.returned (.int .i64 z)) (HYK2.out (by simp)).symm⟩
     | false =>
      go_wp2_with (go_at_call 40;(with_reducible refine (HC.out _ (ovB O1.out)).mono ?_);rintro _ _ ⟨⟨e1,rfl⟩,rfl⟩)
      go_roundw
      case rel => exact ⟨k + 1,by omega,by go_num,HST.out (by simp),(ovB O1.out)⟩
      case measure => (simp [intOf];try omega)
   · obtain rfl : k = xs.length := by omega
     have hN : R = -1 := HN.out (fun j h => HBF.out j h h);have HNN := hid hN;clear hov hN;go_wp2;go_ret
     exact ⟨(ovB O1.out),congrArg (fun z => Ending.returned (.int .i64 z)) HNN.out.symm⟩
end
section
open Go.RowKit
theorem isnan_any (x : Int) (w : World) : Calls Tryz.prog 113 #[.int .i64 x] w (Ret w (.bool false)) := by
 go_enter Tryz.func113,Tryz.ntmps113;go_wp2;go_ret
 exact ⟨ovA,by simp⟩
def cmpZ (x y : Int) : Int := if x < y then -1 else if y < x then 1 else 0
theorem cmpz_any (x y : Int) (w : World) : Calls Tryz.prog 82 #[.int .i64 x,.int .i64 y] w (Ret w (.int .i64 (cmpZ x y))) := by
 have HN := hid (fun x W => isnan_any x W);rcases Int.lt_trichotomy x y with h | h | h
 · have h1 : decide (x < y) = true := decide_eq_true h;have e : cmpZ x y = -1 := by unfold cmpZ;rw [if_pos h]
   rw [e]
   go_enter Tryz.func82,Tryz.ntmps82;go_wp2_with (go_at_call 113;(with_reducible refine (HN.out _ _).mono ?_);rintro _ _ ⟨⟨e1,rfl⟩,rfl⟩)
   go_ret
   exact ⟨ovA,rfl⟩
 · subst h;have h1 : decide (x < x) = false := decide_eq_false (by omega);have e : cmpZ x x = 0 := by unfold cmpZ;rw [if_neg (by omega),if_neg (by omega)]
   rw [e]
   go_enter Tryz.func82,Tryz.ntmps82;go_wp2_with (go_at_call 113;(with_reducible refine (HN.out _ _).mono ?_);rintro _ _ ⟨⟨e1,rfl⟩,rfl⟩)
   go_ret
   exact ⟨ovA,rfl⟩
 · have h1 : decide (x < y) = false := decide_eq_false (by omega);have h2 : decide (y < x) = true := decide_eq_true h;have e : cmpZ x y = 1 := by unfold cmpZ;rw [if_neg (by omega),if_pos h]
   rw [e]
   go_enter Tryz.func82,Tryz.ntmps82;go_wp2_with (go_at_call 113;(with_reducible refine (HN.out _ _).mono ?_);rintro _ _ ⟨⟨e1,rfl⟩,rfl⟩)
   go_ret
   exact ⟨ovA,rfl⟩
end
section
open Go.RowKit
theorem fromc_any (x : Sm) (t : Int) (w : World) : Calls Tryz.prog 81 #[.agg #[.int .i64 x.t,.int .u64 (x.v : Nat)],.int .i64 t] w (Ret w (.int .i64 (cmpZ x.t t))) := by
 have HC := hid (fun x y W => cmpz_any x y W)
 go_enter Tryz.func81,Tryz.ntmps81;go_wp2_with (go_at_call 82;(with_reducible refine (HC.out _ _ _).mono ?_);rintro _ _ ⟨⟨e1,rfl⟩,rfl⟩)
 go_ret
 exact ⟨ovA,rfl⟩
theorem bsf_any (xs : List Sm) (hr : RiseL xs) (t : Int) (a : Option Addr) (cap : Nat) (w : World) (hs : Sl 2 Sm.cs w a cap xs) (hlen : xs.length ≤ 1000000) :
    Calls Tryz.prog 80 #[.slice a xs.length cap,.int .i64 t,.func (.func 81) #[] #[]] w (Gives w fun v _ => ∃ b,v = .tuple #[.int .i64 (fromN xs t : Nat),.bool b]) := by
  have HF := hid (fun x W => fromc_any x t W);have hmax := len_max hs
  go_enter Tryz.func80,Tryz.ntmps80;go_wp2
  go_loopw [9,10,11] (fun i j _ wr => ∃ p q : Nat,i = .int .i64 (p : Nat) ∧ j = .int .i64 (q : Nat) ∧ p ≤ fromN xs t ∧ fromN xs t ≤ q ∧ q ≤ xs.length ∧ Ov w wr) (fun i j _ _ => (intOf j).toNat - (intOf i).toNat)
  case atStart => exact ⟨0,xs.length,rfl,rfl,Nat.zero_le _,fromN_le xs t,Nat.le_refl _,ovA⟩
  case round =>
   obtain ⟨p,q,rfl,rfl,hp,hq,hql,⟨e0,rfl⟩⟩ := hrel;by_cases hlt : p < q
   · obtain ⟨m,hmm⟩ : ∃ m,(p + q) / 2 = m := ⟨_,rfl⟩;have hml : m < xs.length := by omega
     obtain ⟨b,off,rfl,hb,hcell⟩ := hs.rec_ m xs[m] (List.getElem?_eq_getElem hml);have hf := from_iff hr (t := t) hml;obtain ⟨x,hx⟩ : ∃ x,xs[m] = x := ⟨_,rfl⟩;rw [hx] at hcell hf;have c0 := hcell 0 _ rfl;rw [Nat.add_zero] at c0;have c1 := hcell 1 _ rfl;clear hcell hx;by_cases hlt2 : x.t < t
     · have e : cmpZ x.t t = -1 := by unfold cmpZ;rw [if_pos hlt2]
       have HF2 : Hid (∀ W,Calls Tryz.prog 81 #[.agg #[.int .i64 x.t,.int .u64 (x.v : Nat)],.int .i64 t] W (Ret W (.int .i64 (-1)))) := hid (fun W => by rw [← e];exact HF.out x W);have hpm := hf.1 hlt2;clear e hf hlt2;go_wp2_with (go_at_call 81;(with_reducible refine (HF2.out _).mono ?_);rintro _ _ ⟨⟨e1,rfl⟩,rfl⟩)
       refine ⟨⟨m + 1,q,by first | go_num | (congr 1;omega),rfl,by omega,hq,hql,ovA⟩,by simp [intOf];try omega⟩
     · have e : cmpZ x.t t = 0 ∨ cmpZ x.t t = 1 := by unfold cmpZ;rw [if_neg hlt2];split <;> simp
       obtain ⟨z,hz⟩ : ∃ z,cmpZ x.t t = z := ⟨_,rfl⟩;have HF2 : Hid (∀ W,Calls Tryz.prog 81 #[.agg #[.int .i64 x.t,.int .u64 (x.v : Nat)],.int .i64 t] W (Ret W (.int .i64 z))) := hid (fun W => by rw [← hz];exact HF.out x W);have hzn : decide (z < 0) = false := decide_eq_false (by omega);have hpm : ¬ m < fromN xs t := fun h => hlt2 (hf.2 h);clear e hf hlt2 hz;go_wp2_with (go_at_call 81;(with_reducible refine (HF2.out _).mono ?_);rintro _ _ ⟨⟨e1,rfl⟩,rfl⟩)
       refine ⟨⟨p,m,rfl,by first | rfl | go_num | (congr 1;omega),hp,by omega,by omega,ovA⟩,by simp [intOf];try omega⟩
   · obtain rfl : p = q := by omega
     have hpf : fromN xs t = p := by omega
     have HPF := hid hpf;clear hpf hp hq hlt;by_cases hl : p < xs.length
     · obtain ⟨b,off,rfl,hb,hcell⟩ := hs.rec_ p xs[p] (List.getElem?_eq_getElem hl);obtain ⟨x,hx⟩ : ∃ x,xs[p] = x := ⟨_,rfl⟩;rw [hx] at hcell;have c0 := hcell 0 _ rfl;rw [Nat.add_zero] at c0;have c1 := hcell 1 _ rfl;clear hcell hx;have hdl : decide (p < xs.length) = true := decide_eq_true hl;obtain ⟨z,hz⟩ : ∃ z,cmpZ x.t t = z := ⟨_,rfl⟩;have HF2 : Hid (∀ W,Calls Tryz.prog 81 #[.agg #[.int .i64 x.t,.int .u64 (x.v : Nat)],.int .i64 t] W (Ret W (.int .i64 z))) := hid (fun W => by rw [← hz];exact HF.out x W);clear hz;go_wp2_with (go_at_call 81;(with_reducible refine (HF2.out _).mono ?_);rintro _ _ ⟨⟨e1,rfl⟩,rfl⟩)
       go_ret2
       exact ⟨ovA,_,rfl,z == 0,by rw [HPF.out];rfl⟩
     · have hdl : decide (p < xs.length) = false := decide_eq_false hl;go_wp2;go_ret2
       exact ⟨ovA,_,rfl,false,by rw [HPF.out];rfl⟩
theorem from_any (xs : List Sm) (hr : RiseL xs) (t : Int) (a : Option Addr) (cap : Nat) (w : World) (hs : Sl 2 Sm.cs w a cap xs) (hlen : xs.length ≤ 1000000) :
    Calls Tryz.prog 45 #[.slice a xs.length cap,.int .i64 t] w (Ret w (.int .i64 (fromN xs t : Nat))) := by
  have HB := hid (fun W (hW : Sl 2 Sm.cs W a cap xs) => bsf_any xs hr t a cap W hW hlen)
  go_enter Tryz.func45,Tryz.ntmps45;go_wp2_with (go_at_call 80;(with_reducible refine (HB.out _ (by exact slA hs)).mono ?_);rintro _ _ ⟨⟨e1,rfl⟩,v1,rfl,b1,rfl⟩)
  go_ret
  exact ⟨ovA,rfl⟩
theorem behind_any (xs : List Sm) (hr : RiseL xs) (t : Int) (a : Option Addr) (cap : Nat) (w : World) (hs : Sl 2 Sm.cs w a cap xs) (hlen : xs.length ≤ 1000000) :
    Calls Tryz.prog 37 #[.slice a xs.length cap,.int .i64 t] w (Ret w (.int .i64 (behindN xs t : Nat))) := by
  have HB := hid (fun W (hW : Sl 2 Sm.cs W a cap xs) => from_any xs hr t a cap W hW hlen);have hmax := len_max hs;have key : ∀ f,f = fromN xs t → (∀ hk : f < xs.length,xs[f].t = t → behindN xs t = f + 1) ∧ ((∀ hk : f < xs.length,xs[f].t ≠ t) → behindN xs t = f) := by
   rintro f rfl;exact behind_from hr t
  obtain ⟨f,hf⟩ : ∃ f,fromN xs t = f := ⟨_,rfl⟩;obtain ⟨h1,h2⟩ := key f hf.symm;obtain ⟨g,hg⟩ : ∃ g,behindN xs t = g := ⟨_,rfl⟩;rw [hg] at h1 h2 ⊢;rw [hf] at HB;clear hg hf key;by_cases hl : f < xs.length
  · obtain ⟨b,off,rfl,hb,hcell⟩ := hs.rec_ f xs[f] (List.getElem?_eq_getElem hl);have h3 := h1 hl;have h4 : xs[f].t ≠ t → g = f := fun h => h2 (fun _ => h);obtain ⟨x,hx⟩ : ∃ x,xs[f] = x := ⟨_,rfl⟩;rw [hx] at hcell h3 h4;have c0 := hcell 0 _ rfl;rw [Nat.add_zero] at c0;have hdl : decide (f < xs.length) = true := decide_eq_true hl;have HS := hid hs;obtain ⟨xt,hxt⟩ : ∃ y,x.t = y := ⟨_,rfl⟩;have c2 : w.cell? ⟨b,off + f * 2,none⟩ = some (.int .i64 xt) := by rw [← hxt];exact c0
    rw [hxt] at h3 h4;clear hcell hx h1 h2 c0 hs hxt;by_cases he : xt = t
    · obtain rfl := h3 he;subst he;clear h4
      go_enter Tryz.func37,Tryz.ntmps37;go_wp2_with (go_at_call 45;(with_reducible refine (HB.out _ (by exact slA HS.out)).mono ?_);rintro _ _ ⟨⟨e1,rfl⟩,rfl⟩)
      go_ret
      exact ⟨ovA,by first | rfl | (congr 1;omega)⟩
    · obtain rfl := h4 he;have hxe : (xt == t) = false := by simpa using he
      clear h3
      go_enter Tryz.func37,Tryz.ntmps37;go_wp2_with (go_at_call 45;(with_reducible refine (HB.out _ (by exact slA HS.out)).mono ?_);rintro _ _ ⟨⟨e1,rfl⟩,rfl⟩)
      go_ret
      exact ⟨ovA,rfl⟩
  · obtain rfl : g = f := h2 (fun h => absurd h hl);have hdl : decide (g < xs.length) = false := decide_eq_false hl;clear h1 h2
    go_enter Tryz.func37,Tryz.ntmps37;go_wp2_with (go_at_call 45;(with_reducible refine (HB.out _ (by exact slA hs)).mono ?_);rintro _ _ ⟨⟨e1,rfl⟩,rfl⟩)
    go_ret
    exact ⟨ovA,rfl⟩
end
section
open Go.RowKit
attribute [local go_sem] odr cdr
theorem SeAt.smp {base : Nat} {w : World} {x : Se} (h : SeAt base w x) {k : Nat} (hk : k < x.ps.length) : ∃ c,x.s.chunks[k]? = Option.some c ∧ ChkOk c ∧ x.ps[k].L = bitsC En.zero c ∧ PrtOk base w x.ps[k] := by
 obtain ⟨c,h1,h2⟩ := h.is_.L hk;refine ⟨c,h1,?_,h2,h.pts _ (List.getElem_mem hk)⟩;have hm := List.mem_of_getElem? h1;unfold Sr.chunks at hm;rcases List.mem_append.1 hm with h3 | h3
 · exact (h.ok.cl c h3).2
 · simp at h3;subst h3;exact h.ok.op
theorem chunks_all (s : Sr) : s.chunks.flatten = s.all := by unfold Sr.chunks Sr.all;simp
theorem take_flat {l : List (List Sm)} {k : Nat} {c : List Sm} (h : l[k]? = Option.some c) : (l.take (k + 1)).flatten = (l.take k).flatten ++ c := by
 rw [List.take_add_one,h];simp
theorem flat_le {l : List (List Sm)} (k : Nat) : (l.take k).flatten.length ≤ l.flatten.length := by
 conv => rhs;rw [← List.take_append_drop k l,List.flatten_append,List.length_append]
 omega
theorem samples_any {base : Nat} {w : World} {b n sz mb : Nat} {L : List Se} (h : BkAt base w b n sz mb L) (hT : TabW w) (id : Nat) {s : Sr} (hs0 : getS (bkOf L) id = s) (hcl : s.cl.length ≤ 900) (hall : s.all.length ≤ 100000) :
    Calls Tryz.prog 34 #[.pointer (some ⟨b,0,none⟩),.int .u32 (id : Nat)] w (Gives w fun v w' => OwnM w.heap.size w' v s.all) := by
  have HA := hid (fun W (hW : ∃ e,W = over w e) => bkAt_any (w := W) (by obtain ⟨e,rfl⟩ := hW;exact h.on e) id);rw [hs0] at HA;have HT := hid hT;clear h hs0 hT
  go_enter Tryz.func34,Tryz.ntmps34
  go_wp2_with (
    (go_at_call 71)
    (with_reducible refine (HA.out _ ovA).mono ?_)
    rintro _ w1 ⟨x,rfl,⟨e1,hw1⟩,hs,hxs⟩;have O1 : Hid (∃ e,w1 = over w e) := hid (by rw [hw1];exact ovA);obtain ⟨g,cap,m,ho⟩ := hs.open_;have HS := hid hs;have HO := hid ho;have HX := hid hxs;have r0 := hs.blk.cell 0 rfl;rw [ho.hv] at r0;have l0 := hs.blk.lt;have hm : s.cl.length = m := by rw [← hxs];exact ho.hc
    clear hw1 hs ho hxs)
  have hg := HO.out.lt;have hpl : x.ps.length = m + 1 := HO.out.hl
  go_loopw [5,7,8,9,10,18] (fun v _ _ _ _ i wr => ∃ k : Nat,k ≤ m + 1 ∧ i = .int .i64 (k : Nat) ∧ OwnM w1.heap.size wr v (s.chunks.take k).flatten ∧ Ov w1 wr) (fun _ _ _ _ _ i _ => m + 1 - (intOf i).toNat)
  case atStart => exact ⟨0,Nat.zero_le _,rfl,Own.nil _,ovA⟩
  case round =>
   obtain ⟨k,hk,rfl,hown,⟨e0,rfl⟩⟩ := hrel;obtain ⟨av,cv,rfl,_⟩ := Own.slice Sm.cs_len hown;have HOW := hid hown;by_cases hlt : k < m + 1
   · have hpk : k < x.ps.length := by omega
     obtain ⟨c,hc1,hc2,hc3,hc4⟩ := HS.out.smp hpk;rw [HX.out] at hc1;have htk := take_flat hc1;have hfl := flat_le (l := s.chunks) (k + 1);rw [chunks_all] at hfl;have hpo := (HO.out.part hpk).ov hg (W := over w1 e0) ⟨e0,rfl⟩;obtain ⟨pt,hptx⟩ : ∃ pt,x.ps[k]'hpk = pt := ⟨_,rfl⟩;rw [hptx] at hpo hc3 hc4;have q0 := hpo.r0;have q1 := hpo.r1;have q2 := hpo.r2;have q3 := hpo.r3;have q4 := hpo.r4;have q5 := hpo.r5;have q6 := hpo.r6;have q7 := hpo.r7;have q8 := hpo.r8;have q9 := hpo.r9;have q10 := hpo.r10;rw [hc3] at q0 q1;have SB := hid hc4.b;rw [hc3] at SB;obtain ⟨ee,hee⟩ : ∃ ee,knowC En.zero c = ee := ⟨_,rfl⟩;have HAll := hid (fun A C W (h1 : TabW W) (h2 : SlB W A C (pack (bitsC En.zero c))) => all_good hc2.wf (by have := hc2.len;omega) hc2.good A C W h1 h2);rw [hee] at HAll;obtain ⟨n0,n1,n2,⟨n3,n4,n5,n6⟩⟩ := ee;obtain ⟨LL,hLL⟩ : ∃ LL,bitsC En.zero c = LL := ⟨_,rfl⟩;rw [hLL] at HAll SB q0 q1;have HTK := hid htk;have hcl24 := hc2.len;rw [htk,List.length_append] at hfl;have HT1 := hid (TabW.ov HT.out O1.out);obtain ⟨pre,hpre⟩ : ∃ p,(s.chunks.take k).flatten = p := ⟨_,rfl⟩;rw [hpre] at hown HOW hfl HTK ⊢;clear hc1 hc2 hc3 hc4 hpo hptx hee hLL htk hown hpre
     go_wp2_with (first
       | (go_at_call 47;(with_reducible refine (HAll.out _ _ _ (by exact tabA HT1.out) (by exact slA SB.out)).mono ?_);rintro _ _ ⟨a6,c6,rfl,⟨e6,rfl⟩,s6⟩;have S6 := hid s6;clear s6)
       | (at_builtin
          refine wpList_append sample_elem Sm.cs_len Sm.cs_one rfl (.tmp 29) (.tmp 30) rfl (w1 := over w1 e0) (B := w1) (base := w1.heap.size) (ys := pre) (xs := c) HOW.out rfl rfl ovA ovA (Nat.le_refl _) (by simp) (by exact slA S6.out) (by unfold maxLen;omega) (by omega) ?_;intro v8 x8 ho8 _ _;have HO8 := hid ho8;clear ho8))
     go_roundw
     case rel => exact ⟨k + 1,by omega,by go_num,by rw [HTK.out];exact HO8.out,ovA⟩
     case measure => (simp [intOf];try omega)
   · obtain rfl : k = m + 1 := by omega
     have hfa : (s.chunks.take (m + 1)).flatten = s.all := by
      rw [List.take_of_length_le (by rw [chunks_len];omega),chunks_all]
     have HFA := hid hfa;clear hown hfa;go_wp2;go_ret
     refine ⟨(ovB O1.out),_,rfl,?_⟩;have hle : w.heap.size ≤ w1.heap.size := by obtain ⟨z,hz⟩ := O1.out;rw [hz];simp
     rw [← HFA.out];exact Own.mono HOW.out hle
end
end Go.Proofs.YtoolooffpphmdaaGreatDoor
