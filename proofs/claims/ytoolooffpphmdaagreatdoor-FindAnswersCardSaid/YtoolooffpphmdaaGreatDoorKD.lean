import Derived.Test.YtoolooffpphmdaaGreatDoorKB
import Derived.Test.YtoolooffpphmdaaGreatDoorKC
namespace Go.Proofs.YtoolooffpphmdaaGreatDoor
set_option linter.unusedVariables false
set_option linter.unusedSimpArgs false
set_option maxRecDepth 100000
set_option maxHeartbeats 4000000
section
open Go.RowKit
attribute [local go_sem] odr cdr
theorem Sl.sub {α : Type} {sz : Nat} {cells : α → List Value} {w : World} {a : Option Addr} {cap : Nat} {xs : List α} (h : Sl sz cells w a cap xs) {i j : Nat} (hij : i ≤ j) (hj : j ≤ xs.length) :
    Sl sz cells w (if cap = i then a else a.map (fun x => x.add (i * sz))) (cap - i) ((xs.take j).drop i) := by
  have hle := h.le;have hmx := h.max;refine ⟨by simp;omega,by omega,fun hn => ?_,fun k x hx => ?_⟩
  · split at hn
    · omega
    · have h1 : a = none := by simpa using hn
      have := h.nul h1;omega
  · rw [List.getElem?_drop,List.getElem?_take] at hx;split at hx
    · rename_i hl
      obtain ⟨b,off,rfl,hb,hc⟩ := h.rec_ (i + k) x hx;have hik : i + k < xs.length := (List.getElem?_eq_some_iff.1 hx).1;refine ⟨b,off + i * sz,?_,hb,fun m u hu => ?_⟩
      · rw [if_neg (by omega),Option.map_some,Go.WideShapes.add_plain]
      · have := hc m u hu;rw [Nat.add_mul,← Nat.add_assoc] at this;exact this
    · cases hx
theorem cloneS_any (xs : List Sm) (a : Option Addr) (cap : Nat) (w : World) (hs : SlM w a cap xs) (hb : xs.length ≤ 1000000) :
    Calls Tryz.prog 44 #[.slice a xs.length cap] w (Gives w fun v w' => OwnM w.heap.size w' v xs) := by
  rcases a with _ | ad
  · obtain rfl : cap = 0 := hs.nul rfl;obtain rfl : xs = [] := by
     cases xs with
     | nil => rfl
     | cons x l => obtain ⟨b,off,h,_⟩ := hs.rec_ 0 x rfl;cases h
    have q := fun (W : World) => run_eql_slice_nil0 (P := Tryz.prog) (t := 46) sample_elem.ht W none 0 0
    go_enter Tryz.func44,Tryz.ntmps44;go_wp2;go_ret
    exact ⟨ovs w,_,rfl,Own.nil w⟩
  · have q := fun (W : World) => run_eql_slice_nil0 (P := Tryz.prog) (t := 46) sample_elem.ht W (some ad) xs.length cap
    go_enter Tryz.func44,Tryz.ntmps44;go_wp2_with (at_builtin;refine wpList_append sample_elem Sm.cs_len Sm.cs_one rfl (.tmp 5) (.tmp 6) rfl (B := w) (ys := []) (xs := xs) (Own.made _) rfl rfl (ovs _) ovA (Nat.le_refl _) (by simp) (by exact slA hs) (by unfold maxLen;simp;omega) (by simp;omega) ?_;intro v' x' hown' _ _)
    go_ret
    exact ⟨ovA,_,rfl,hown'⟩
theorem betw_none (l : List Sm) {a b : Int} (h : b < a) : betw l a b = [] := by
 unfold betw;exact filter_no (fun y _ => by simp;omega)
theorem between_any {base : Nat} {w : World} {b n sz mb : Nat} {L : List Se} (h : BkAt base w b n sz mb L) (hT : TabW w) (id : Nat) {s : Sr} (hs0 : getS (bkOf L) id = s) (hr : RiseL s.all) (hcl : s.cl.length ≤ 900) (hall : s.all.length ≤ 100000) (f t : Int) :
    Calls Tryz.prog 13 #[.pointer (some ⟨b,0,none⟩),.int .u32 (id : Nat),.agg #[.int .i64 f,.int .i64 t]] w (Gives w fun v w' => OwnM w.heap.size w' v (betw s.all f t)) := by
  have HS := hid (fun W (hW : ∃ e,W = over w e) => samples_any (w := W) (by obtain ⟨e,rfl⟩ := hW;exact h.on e) (TabW.ov hT hW) id hs0 hcl hall);obtain ⟨xs,hxs⟩ : ∃ xs,s.all = xs := ⟨_,rfl⟩;rw [hxs] at HS hr hall ⊢;have HF := hid (fun W A C (hW : SlM W A C xs) => from_any xs hr f A C W hW (by omega));have HB := hid (fun W A C (hW : SlM W A C xs) => behind_any xs hr t A C W hW (by omega));rcases Int.lt_or_le t f with hlt | hle
  · rw [betw_none xs hlt];have hd : decide (t < f) = true := decide_eq_true hlt;clear h hT hs0
    go_enter Tryz.func13,Tryz.ntmps13;go_wp2;go_ret
    exact ⟨ovA,_,rfl,Own.nil _⟩
  · have hd : decide (t < f) = false := decide_eq_false (by omega);obtain ⟨h1,h2⟩ := betw_slice hr hle;have h3 := behindN_le xs t;obtain ⟨i,hi⟩ : ∃ i,fromN xs f = i := ⟨_,rfl⟩;obtain ⟨j,hj⟩ : ∃ j,behindN xs t = j := ⟨_,rfl⟩;rw [hi] at HF h1 h2;rw [hj] at HB h1 h2 h3;have HC := hid (fun W A C (hW : SlM W A C (betw xs f t)) => cloneS_any (betw xs f t) A C W hW (by rw [← h2];simp;omega));have hbl : (betw xs f t).length = j - i := by rw [← h2];simp;omega
    obtain ⟨ys,hys⟩ : ∃ ys,betw xs f t = ys := ⟨_,rfl⟩;rw [hys] at HC hbl h2 ⊢;rw [hbl] at HC;clear h hT hs0 hi hj hys hle
    go_enter Tryz.func13,Tryz.ntmps13
    go_wp2_with (first
      | (go_at_call 34;(with_reducible refine (HS.out _ ovA).mono ?_);rintro _ _ ⟨⟨e1,rfl⟩,v1,rfl,o1⟩;obtain ⟨a1,c1,rfl,s1⟩ := Own.slice Sm.cs_len o1;have hc1 := s1.le;have S1 := hid s1;clear o1 s1))
    have hsub := Sl.sub S1.out h1 h3;rw [h2] at hsub;by_cases hci : c1 = i
    · rw [if_pos hci] at hsub;subst hci;rw [Nat.sub_self] at hsub;have S2 := hid hsub;clear hsub;refine M2.wrm [4,8,10] 12 (by kernel_rfl) (by kernel_rfl) (by decide) ?_;simp only [M2.td];with_reducible refine M2.mlq 4 (by kernel_rfl) ?_
      simp only [M2.td];repeat (go_big_quiet_step (fail))
      refine wpQuiet_nil ?_;refine M2.mle (by decide) ?_;go_wp2_with ((go_at_call 45;(with_reducible refine (HF.out _ _ _ (by exact slA S1.out)).mono ?_);rintro _ _ ⟨⟨e2,rfl⟩,rfl⟩))
      refine M2.MixQ.mk ovA ?_;with_reducible refine M2.mlq 3 (by kernel_rfl) ?_
      simp only [M2.td];repeat (go_big_quiet_step (fail))
      refine wpQuiet_nil ?_;refine M2.mle (by decide) ?_;go_wp2_with ((go_at_call 37;(with_reducible refine (HB.out _ _ _ (by exact slA S1.out)).mono ?_);rintro _ _ ⟨⟨e3,rfl⟩,rfl⟩))
      refine M2.MixQ.mk ovA ?_;with_reducible refine M2.mlq 1 (by kernel_rfl) ?_
      simp only [M2.td];repeat (go_big_quiet_step (fail))
      refine wpQuiet_nil ?_;refine M2.mle (by decide) ?_;go_wp2_with ((go_at_call 44;(with_reducible refine (HC.out _ _ _ (by have h := S2.out;exact (by exact slA h))).mono ?_);rintro _ _ ⟨⟨e4,rfl⟩,v4,rfl,o4⟩))
      refine M2.MixQ.mk ovA ?_;with_reducible refine M2.mlq 1 (by kernel_rfl) ?_
      simp only [M2.td];repeat (go_big_quiet_step (fail))
      refine wpQuiet_nil ?_;refine M2.mln ?_;refine M2.mln ?_;go_wp2;go_ret
      exact ⟨ovA,_,rfl,Own.mono o4 (by simp;try omega)⟩
    · rw [if_neg hci] at hsub;have S2 := hid hsub;clear hsub;refine M2.wrm [4,8,10] 12 (by kernel_rfl) (by kernel_rfl) (by decide) ?_;simp only [M2.td];with_reducible refine M2.mlq 4 (by kernel_rfl) ?_
      simp only [M2.td];repeat (go_big_quiet_step (fail))
      refine wpQuiet_nil ?_;refine M2.mle (by decide) ?_;go_wp2_with ((go_at_call 45;(with_reducible refine (HF.out _ _ _ (by exact slA S1.out)).mono ?_);rintro _ _ ⟨⟨e2,rfl⟩,rfl⟩))
      refine M2.MixQ.mk ovA ?_;with_reducible refine M2.mlq 3 (by kernel_rfl) ?_
      simp only [M2.td];repeat (go_big_quiet_step (fail))
      refine wpQuiet_nil ?_;refine M2.mle (by decide) ?_;go_wp2_with ((go_at_call 37;(with_reducible refine (HB.out _ _ _ (by exact slA S1.out)).mono ?_);rintro _ _ ⟨⟨e3,rfl⟩,rfl⟩))
      refine M2.MixQ.mk ovA ?_;with_reducible refine M2.mlq 1 (by kernel_rfl) ?_
      simp only [M2.td];repeat (go_big_quiet_step (fail))
      refine wpQuiet_nil ?_;refine M2.mle (by decide) ?_;go_wp2_with ((go_at_call 44;(with_reducible refine (HC.out _ _ _ (by have h := S2.out;exact (by exact slA h))).mono ?_);rintro _ _ ⟨⟨e4,rfl⟩,v4,rfl,o4⟩))
      refine M2.MixQ.mk ovA ?_;with_reducible refine M2.mlq 1 (by kernel_rfl) ?_
      simp only [M2.td];repeat (go_big_quiet_step (fail))
      refine wpQuiet_nil ?_;refine M2.mln ?_;refine M2.mln ?_;go_wp2;go_ret
      exact ⟨ovA,_,rfl,Own.mono o4 (by simp;try omega)⟩
def lastS (l : List Sm) (t : Int) : Sm × Bool := if h : 0 < behindN l t then (l[behindN l t - 1]'(by have := behindN_le l t;omega),true) else (⟨0,0⟩,false)
theorem flast_any {base : Nat} {w : World} {b n sz mb : Nat} {L : List Se} (h : BkAt base w b n sz mb L) (hT : TabW w) (id : Nat) {s : Sr} (hs0 : getS (bkOf L) id = s) (hr : RiseL s.all) (hcl : s.cl.length ≤ 900) (hall : s.all.length ≤ 100000) (t : Int) :
    Calls Tryz.prog 8 #[.pointer (some ⟨b,0,none⟩),.int .u32 (id : Nat),.int .i64 t] w (Ret w (.tuple #[.agg #[.int .i64 (lastS s.all t).1.t,.int .u64 ((lastS s.all t).1.v : Nat)],.bool (lastS s.all t).2])) := by
  have HS := hid (fun W (hW : ∃ e,W = over w e) => samples_any (w := W) (by obtain ⟨e,rfl⟩ := hW;exact h.on e) (TabW.ov hT hW) id hs0 hcl hall);obtain ⟨xs,hxs⟩ : ∃ xs,s.all = xs := ⟨_,rfl⟩;rw [hxs] at HS hr hall ⊢;have HB := hid (fun W A C (hW : SlM W A C xs) => behind_any xs hr t A C W hW (by omega));have h3 := behindN_le xs t;by_cases h0 : 0 < behindN xs t
  · have e : lastS xs t = (xs[behindN xs t - 1]'(by omega),true) := by unfold lastS;rw [dif_pos h0]
    rw [e];obtain ⟨j,hj⟩ : ∃ j,behindN xs t = j := ⟨_,rfl⟩;simp only [hj];have hjl : j - 1 < xs.length := by omega
    rw [hj] at HB h3 h0;obtain ⟨x,hx⟩ : ∃ x,xs[j - 1]'hjl = x := ⟨_,rfl⟩;have hj0 : ((j : Int) == 0) = false := by simp;omega
    have HX := hid hx;simp only [hx];clear h hT hs0 e hj hx
    go_enter Tryz.func8,Tryz.ntmps8
    go_wp2_with (first
      | (go_at_call 34;(with_reducible refine (HS.out _ ovA).mono ?_);rintro _ _ ⟨⟨e1,rfl⟩,v1,rfl,o1⟩;obtain ⟨a1,c1,rfl,s1⟩ := Own.slice Sm.cs_len o1;obtain ⟨ab,ao,rfl,hab,q0,q1⟩ := SlM.at_ s1 hjl;simp at hab;have HX1 := HX.out;rw [HX1] at q0 q1;clear HX1;have S1 := hid s1;clear o1 s1)
      | (go_at_call 37;(with_reducible refine (HB.out _ _ _ (by exact slA S1.out)).mono ?_);rintro _ _ ⟨⟨e3,rfl⟩,rfl⟩))
    (try simp only [Exit.inBlock,Exit.then])
    refine bodyPost_ret (v := ?rv103) ?rh103 rfl ?rp103
    case rh103 => (simp only [results,show Tryz.f8.results = #[.cell 6 34,.tmp 7] from rfl];go_simp;rfl)
    exact ⟨ovA,rfl⟩
  · have e : lastS xs t = (⟨0,0⟩,false) := by unfold lastS;rw [dif_neg h0]
    rw [e];have hj : behindN xs t = 0 := by omega
    rw [hj] at HB;clear h hT hs0 e hj h0 h3
    go_enter Tryz.func8,Tryz.ntmps8
    go_wp2_with (first
      | (go_at_call 34;(with_reducible refine (HS.out _ ovA).mono ?_);rintro _ _ ⟨⟨e1,rfl⟩,v1,rfl,o1⟩;obtain ⟨a1,c1,rfl,s1⟩ := Own.slice Sm.cs_len o1;have S1 := hid s1;clear o1 s1)
      | (go_at_call 37;(with_reducible refine (HB.out _ _ _ (by exact slA S1.out)).mono ?_);rintro _ _ ⟨⟨e3,rfl⟩,rfl⟩))
    (try simp only [Exit.inBlock,Exit.then])
    refine bodyPost_ret (v := ?rv104) ?rh104 rfl ?rp104
    case rh104 => (simp only [results,show Tryz.f8.results = #[.cell 6 34,.tmp 7] from rfl];go_simp;rfl)
    exact ⟨ovA,rfl⟩
end
section
open Go.RowKit
attribute [local go_sem] odr cdr
structure Bu where
 fr : Int
 ag : Ag
def Bu.cs (b : Bu) : List Value := [.int .i64 b.fr,.int .u64 (b.ag.n : Nat),.int .i64 b.ag.f.t,.int .u64 (b.ag.f.v : Nat),.int .i64 b.ag.l.t,.int .u64 (b.ag.l.v : Nat),.int .u64 (b.ag.mn : Nat),.int .u64 (b.ag.mx : Nat),.int .u64 (b.ag.hi : Nat),.int .u64 (b.ag.lo : Nat)]
theorem Bu.cs_len (b : Bu) : b.cs.length = 10 := rfl
theorem Bu.cs_one (b : Bu) : ∀ u ∈ b.cs,u.oneCell' = true := by intro u hu;simp [Bu.cs] at hu;rcases hu with rfl | rfl | rfl | rfl | rfl | rfl | rfl | rfl | rfl | rfl <;> rfl
theorem bu_elem : ElemOf Tryz.prog 38 87 10 80 := elemOf (z := .agg #[.int .i64 0,.int .u64 0,.int .i64 0,.int .u64 0,.int .i64 0,.int .u64 0,.int .u64 0,.int .u64 0,.int .u64 0,.int .u64 0]) (by kernel_rfl) (by kernel_rfl) rfl (by decide)
abbrev OwnU (base : Nat) (w : World) (v : Value) (l : List Bu) : Prop := Own base 87 10 Bu.cs w v l
def buOf (fr : Int) (st : Nat) (g : Nat × List Sm) : Bu := ⟨fr + g.1 * st,agC g.2⟩
def StepPost (w : World) (fr : Int) (st : Nat) (all : List Sm) (en : Ending) (w' : World) : Prop :=
 (∃ e,w' = over w e) ∧ ∃ v gs,en = .returned (.tuple #[v,.int .u16 0]) ∧ StepG fr st all gs [] ∧ OwnU w.heap.size w' v (gs.map (buOf fr st))
theorem step_cut {fr : Int} {st : Nat} {all : List Sm} {gs : List (Nat × List Sm)} {rest : List Sm} (h : StepG fr st all gs rest) (hr : RiseL all) (h0 : 0 < rest.length) :
    ∃ g0 g1 K,rest = g0 ++ g1 ∧ 0 < g0.length ∧ keyB fr st (rest[0]'h0) = K ∧ StepG fr st all (gs ++ [(K,g0)]) g1 ∧ ((g1 = [] ∧ idxF (fun x => keyB fr st x != K) rest = -1) ∨ (0 < g1.length ∧ idxF (fun x => keyB fr st x != K) rest = (g0.length : Nat))) := by
  obtain ⟨K,hK⟩ : ∃ K,keyB fr st (rest[0]'h0) = K := ⟨_,rfl⟩;cases hq : rest.findIdx? (fun x => keyB fr st x != K) with
  | none =>
   have hall : ∀ x ∈ rest,keyB fr st x = K := fun x hx => by
    have := List.findIdx?_eq_none_iff.1 hq x hx
    simpa using this
   refine ⟨rest,[],K,by simp,h0,hK,?_,.inl ⟨rfl,?_⟩⟩
   · have := h.step hr (n := rest.length) (k := K) h0 (Nat.le_refl _) (by rw [List.take_length];exact hall) (fun hl => absurd hl (by omega))
     rwa [List.take_length,List.drop_length] at this
   · unfold idxF;rw [hq]
  | some n =>
   obtain ⟨h1,h2,h3⟩ := List.findIdx?_eq_some_iff_getElem.1 hq;have hn0 : 0 < n := by
    rcases Nat.eq_zero_or_pos n with e | e
    · subst e;rw [hK] at h2;simp at h2
    · exact e
   refine ⟨rest.take n,rest.drop n,K,(List.take_append_drop n rest).symm,by simp;omega,hK,?_,.inr ⟨by simp;omega,?_⟩⟩
   · refine h.step hr hn0 (by omega) (fun x hx => ?_) (fun hl => by simpa using h2);obtain ⟨j,hj,rfl⟩ := List.mem_take_iff_getElem.1 hx;have := h3 j (by omega)
     simpa using this
   · unfold idxF;rw [hq];simp;omega
theorem steps_no {fr to : Int} {st : Nat} (hno : st = 0 ∨ to < fr) (b : Value) (id : Nat) (w : World) :
    Calls Tryz.prog 10 #[b,.int .u32 (id : Nat),.agg #[.int .i64 fr,.int .i64 to],.int .u64 (st : Nat)] w (Ret w (.tuple #[.slice none 0 0,.int .u16 1])) := by
  by_cases h0 : st = 0
  · subst h0
    go_enter Tryz.func10,Tryz.ntmps10;go_wp2;go_ret2
    exact ⟨ovA,rfl⟩
  · have h1 : to < fr := hno.resolve_left h0;have hd0 : ((st : Int) == 0) = false := by simpa using h0
    have hd : decide (to < fr) = true := decide_eq_true h1
    go_enter Tryz.func10,Tryz.ntmps10;go_wp2;go_ret2
    exact ⟨ovA,rfl⟩
end
section
open Go.RowKit
attribute [local go_sem] odr cdr
theorem steps_any {base : Nat} {w : World} {b n sz mb : Nat} {L : List Se} (h : BkAt base w b n sz mb L) (hT : TabW w) (id : Nat) {s : Sr} (hs0 : getS (bkOf L) id = s) (hr : RiseL s.all) (hw : ∀ x ∈ s.all,x.wf) (hcl : s.cl.length ≤ 900) (hall : s.all.length ≤ 900)
    (fr to : Int) (hfr : -9223372036854775808 ≤ fr ∧ fr ≤ 9223372036854775807) (st : Nat) (hst : 0 < st) (hst2 : st < 18446744073709551616) (hle : fr ≤ to) :
    Calls Tryz.prog 10 #[.pointer (some ⟨b,0,none⟩),.int .u32 (id : Nat),.agg #[.int .i64 fr,.int .i64 to],.int .u64 (st : Nat)] w (StepPost w fr st (betw s.all fr to)) := by
  have HBt := hid (fun W (hW : ∃ e,W = over w e) => between_any (w := W) (by obtain ⟨e,rfl⟩ := hW;exact h.on e) (TabW.ov hT hW) id hs0 hr hcl (by omega) fr to);have hr2 : RiseL (betw s.all fr to) := List.Pairwise.filter _ hr;have hw2 : ∀ x ∈ betw s.all fr to,x.wf ∧ fr ≤ x.t := fun x hx => ⟨hw x (List.mem_filter.1 hx).1,(betw_mem hx).1⟩;have hal : (betw s.all fr to).length ≤ 900 := Nat.le_trans (List.length_filter_le _ _) hall;obtain ⟨all,hall2⟩ : ∃ all,betw s.all fr to = all := ⟨_,rfl⟩;rw [hall2] at HBt hr2 hw2 hal ⊢;have hst0 : ((st : Int) == 0) = false := by simp;omega
  have hd : decide (to < fr) = false := decide_eq_false (by omega);have HR := hid hr2;have HW := hid hw2;clear h hT hs0 hr hw hcl hall hall2 hr2 hw2
  go_enter Tryz.func10,Tryz.ntmps10
  go_wp2_with (
    (go_at_call 13)
    (with_reducible refine (HBt.out _ ovA).mono ?_)
    rintro _ W1 ⟨⟨e1,hW1⟩,v1,rfl,o1⟩;obtain ⟨a1,c1,rfl,s1⟩ := Own.slice Sm.cs_len o1;have O1 : Hid (∃ e,W1 = over w e) := hid (by rw [hW1];exact ovA);have P6 : Hid (Blk W1 w.heap.size [.int .i64 fr,.int .i64 to] 25) := hid (by rw [hW1];exact Blk.on (Blk.alloc (Blk.new' rfl) _) _);have P7 : Hid (Blk W1 (w.heap.size + 1) [.int .u64 (st : Nat)] 26) := hid (by rw [hW1];exact Blk.on (Blk.new' (by simp)) _);have S1 := hid s1;clear hW1 o1 s1)
  have q6 := P6.out.cell 0 rfl;have q7 := P7.out.cell 0 rfl;have l7 := P7.out.lt;have l6 := P6.out.lt
  go_loopw [10,11,12,13,14,15] (fun v l _ _ _ _ wr => ∃ gs rest a c,StepG fr st all gs rest ∧ l = .slice a (rest : List Sm).length c ∧ SlM W1 a c rest ∧ OwnU W1.heap.size wr v (gs.map (buOf fr st)) ∧ Ov W1 wr) (fun _ l _ _ _ _ _ => lenOf l)
  case atStart => exact ⟨[],all,a1,c1,StepG.nil _ _ _,rfl,S1.out,Own.nil _,ovA⟩
  case round =>
   obtain ⟨gs,rest,a,c,hG,rfl,hsl,hown,⟨e0,rfl⟩⟩ := hrel;obtain ⟨ev,ec,rfl,hunused⟩ := Own.slice Bu.cs_len hown;clear hunused;have hlen := hG.len;have hbm : (gs.map (buOf fr st)).length ≤ 900 := by rw [List.length_map];omega
   obtain ⟨bs,hbs⟩ : ∃ bs,gs.map (buOf fr st) = bs := ⟨_,rfl⟩;rw [hbs] at hown hbm ⊢;have HBS := hid hbs;have HOW := hid hown;clear hbs;by_cases h0 : 0 < rest.length
   · obtain ⟨g0,g1,K,hgg,hg0,hK,hG2,hI⟩ := step_cut hG HR.out h0;have hx0 := HW.out (rest[0]'h0) (by rw [← hG.flat];exact List.mem_append_right _ (List.getElem_mem h0));have hrs : ∀ y ∈ rest,y.wf ∧ fr ≤ y.t := fun y hy => HW.out y (by rw [← hG.flat];exact List.mem_append_right _ hy);have hrr : RiseL rest := by have := HR.out;rw [← hG.flat] at this;exact (List.pairwise_append.1 this).2.1
     obtain ⟨cb,co,hca,hcb,x0,x1⟩ := SlM.at_ hsl h0;clear x1;obtain ⟨x,hx⟩ : ∃ x,rest[0]'h0 = x := ⟨_,rfl⟩;rw [hx] at x0 hK hx0;rw [Nat.zero_mul,Nat.add_zero] at x0;subst hca
     have HIX : Hid (∀ W p6 p7 p12 (C : Nat) (to : Int),SlM W (some ⟨cb,co,none⟩) C rest → Blk W p6 [.int .i64 fr,.int .i64 to] 25 → Blk W p7 [.int .u64 (st : Nat)] 26 → Blk W p12 [.int .u64 (K : Nat)] 26 →
         Calls Tryz.prog 39 #[.slice (some ⟨cb,co,none⟩) rest.length C,.func (.func 40) #[] #[.pointer (some ⟨p6,0,none⟩),.pointer (some ⟨p7,0,none⟩),.pointer (some ⟨p12,0,none⟩)]] W (Ret W (.int .i64 (idxF (fun x => keyB fr st x != K) rest)))) := hid (fun W p6 p7 p12 C to k1 k2 k3 k4 =>
       indexf_any rest (by omega) (fun x => keyB fr st x != K) _ _ _ _ C W k1 (fun j hj W' hW' => by
        have hy := hrs _ (List.getElem_mem hj);obtain ⟨e,rfl⟩ := hW';exact stepc_any _ fr to st K p6 p7 p12 _ (Blk.on k2 e) (Blk.on k3 e) (Blk.on k4 e) hst hy.2 hfr hy.1.1))
     have hdw := dif_wrap hx0.2 hx0.1.1 hfr;unfold keyB at hK;obtain ⟨d,hd0⟩ : ∃ d,(x.t - fr).toNat = d := ⟨_,rfl⟩;rw [hd0] at hdw hK;have hxb : -9223372036854775808 ≤ x.t ∧ x.t ≤ 9223372036854775807 := hx0.1.1;have hdb : d < 18446744073709551616 := by have h9 : fr ≤ x.t := hx0.2;omega
     have hqb : K ≤ d := by rw [← hK];exact Nat.div_le_self _ _
     have hmb : K * st ≤ d := by rw [← hK];exact Nat.div_mul_le_self _ _
     have hq : IntKind.u64.wrap ((d : Int) / (st : Int)) = (K : Int) := by
      have hz : (d : Int) / (st : Int) = ((d / st : Nat) : Int) := (Int.natCast_ediv d st).symm;rw [hz,hK,IntKind.wrap_u64];clear hz;omega
     have hm : IntKind.u64.wrap ((K : Int) * (st : Int)) = ((K * st : Nat) : Int) := by
      rw [← Int.natCast_mul,IntKind.wrap_u64];obtain ⟨m,hm0⟩ : ∃ m,K * st = m := ⟨_,rfl⟩;rw [hm0] at hmb ⊢;omega
     have hFF : fr + ((K * st : Nat) : Int) = fr + (K : Int) * (st : Int) := by rw [Int.natCast_mul]
     have hF : wrap64 (fr + wrap64 ((K * st : Nat) : Int)) = fr + ((K * st : Nat) : Int) := by
      obtain ⟨m,hm0⟩ : ∃ m,K * st = m := ⟨_,rfl⟩;rw [hm0] at hmb ⊢;have h9 : fr ≤ x.t := hx0.2;unfold wrap64;omega
     rw [hFF] at hF;obtain ⟨m,hm0⟩ : ∃ m,K * st = m := ⟨_,rfl⟩;rw [hm0] at hm hF;obtain ⟨F,hF0⟩ : ∃ F,fr + (K : Int) * (st : Int) = F := ⟨_,rfl⟩;rw [hF0] at hF;subst hgg;have HOF := hid (fun W A C (hW : SlM W A C g0) => aggof_any g0 (List.pairwise_append.1 hrr).1 (fun y hy => (hrs y (by simp [hy])).1.2) (by have := hG.len;rw [List.length_append] at this;omega) A C W hW);obtain ⟨A,hA⟩ : ∃ A,agC g0 = A := ⟨_,rfl⟩;rw [hA] at HOF;have HBU : Hid (buOf fr st (K,g0) = ⟨F,A⟩) := hid (by unfold buOf;rw [← hF0,← hA]);obtain ⟨⟨An,⟨Aft,Afv⟩,⟨Alt,Alv⟩,Amn,Amx,Ahi,Alo⟩,hAA⟩ : ∃ B : Ag,A = B := ⟨_,rfl⟩;subst hAA;rw [List.length_append] at HIX hlen ⊢;have S2 := hid hsl;have HG2 := hid hG2;have hcc := hsl.le;rw [List.length_append] at hcc;clear hx0 hrs hrr hdb hqb hmb hFF hF0 hm0 hA hd0 hxb hK hG hG2 hsl hx h0 hown;rcases hI with ⟨rfl,hI⟩ | ⟨hg1,hI⟩
     · rw [hI] at HIX;simp only [List.length_nil,Nat.add_zero] at HIX hlen hcc ⊢;clear hI;by_cases hcg : c = g0.length
       · subst hcg;go_wp2;refine M2.wrm [10,11] 11 (by kernel_rfl) (by kernel_rfl) (by decide) ?_;simp only [M2.td];with_reducible refine M2.mlq 10 (by kernel_rfl) ?_
         simp only [M2.td];repeat (go_big_quiet_step (fail))
         refine wpQuiet_nil ?_;refine M2.mle (by decide) ?_;go_wp2_with (fail)
         refine M2.MixQ.mk ovA ?_;refine M2.mln ?_;refine M2.mle (by decide) ?_;go_wp2_with (fail)
         refine M2.MixQ.mk trivial ?_;refine M2.mln ?_
         go_wp2_with (first
           | (go_at_call 39
              refine gen_c2 ?_;intro W5 hW5;have O5 : Hid (∃ e,W5 = over W1 e) := hid (by rw [hW5];exact ovA);have R12 : Hid (Blk W5 (W1.heap.size + e0.heap.size) [.int .u64 (K : Nat)] 26) := hid (by rw [hW5];exact (by exact blA));have r12 := R12.out.cell 0 rfl;have rl12 := R12.out.lt;have S5 : Hid (SlM W5 (some ⟨cb,co,none⟩) g0.length (g0 ++ [])) := hid (Sl.ov S2.out O5.out);have R6 : Hid (Blk W5 w.heap.size [.int .i64 fr,.int .i64 to] 25) := hid (by obtain ⟨e,he⟩ := O5.out;rw [he];exact Blk.on P6.out e);have R7 : Hid (Blk W5 (w.heap.size + 1) [.int .u64 (st : Nat)] 26) := hid (by obtain ⟨e,he⟩ := O5.out;rw [he];exact Blk.on P7.out e);have r6 := R6.out.cell 0 rfl;have rl6 := R6.out.lt;have r7 := R7.out.cell 0 rfl;have rl7 := R7.out.lt;have HOW5 : Hid (OwnU W1.heap.size W5 (.slice ev bs.length ec) bs) := hid (by rw [hW5];exact (by exact ownA HOW.out));have w5 : W1.heap.size ≤ W5.heap.size := by obtain ⟨e,he⟩ := O5.out;rw [he];simp
              clear hW5 q6 q7 x0
              (with_reducible refine (HIX.out _ _ _ _ _ _ S5.out R6.out R7.out R12.out).mono ?_)
              rintro _ _ ⟨⟨e6,rfl⟩,rfl⟩;have S6 : Hid (SlM (over W5 e6) (some ⟨cb,co,none⟩) g0.length g0) := hid (Sl.takeL (Sl.over S5.out e6)))
           | (go_at_call 41;(with_reducible refine (HOF.out _ _ _ (by exact slA S6.out)).mono ?_);rintro _ _ ⟨⟨e7,rfl⟩,rfl⟩)
           | (at_builtin
              refine wpList_append bu_elem Bu.cs_len Bu.cs_one rfl (.tmp 56) (.tmp 66) rfl (w1 := W5) (B := W1) (xs := [(⟨F,⟨An,⟨Aft,Afv⟩,⟨Alt,Alv⟩,Amn,Amx,Ahi,Alo⟩⟩ : Bu)]) HOW5.out rfl rfl ovA (ovB O5.out) (Nat.le_refl _) w5 (by (repeat with_reducible refine Sl.drew ?_);exact Sl.one_new (y := (⟨F,⟨An,⟨Aft,Afv⟩,⟨Alt,Alv⟩,Amn,Amx,Ahi,Alo⟩⟩ : Bu)) (by simp;try omega)) (by simp only [List.length_singleton];unfold maxLen;omega) (by simp only [List.length_singleton];omega) ?_;intro v8 x8 ho8 _ _;have HO8 := hid ho8;clear ho8))
         go_roundw
         case rel =>
          refine ⟨gs ++ [(K,g0)],[],some ⟨cb,co,none⟩,0,HG2.out,rfl,?_,?_,ovA⟩
          · have hdr := Sl.dropR S2.out;rw [if_pos rfl,Nat.sub_self] at hdr;exact hdr
          · rw [List.map_append,HBS.out,List.map_cons,List.map_nil,HBU.out];exact HO8.out
         case measure => (simp [lenOf];try omega)
       · skip
         go_wp2;refine M2.wrm [10,11] 11 (by kernel_rfl) (by kernel_rfl) (by decide) ?_;simp only [M2.td];with_reducible refine M2.mlq 10 (by kernel_rfl) ?_
         simp only [M2.td];repeat (go_big_quiet_step (fail))
         refine wpQuiet_nil ?_;refine M2.mle (by decide) ?_;go_wp2_with (fail)
         refine M2.MixQ.mk ovA ?_;refine M2.mln ?_;refine M2.mle (by decide) ?_;go_wp2_with (fail)
         refine M2.MixQ.mk trivial ?_;refine M2.mln ?_
         go_wp2_with (first
           | (go_at_call 39
              refine gen_c2 ?_;intro W5 hW5;have O5 : Hid (∃ e,W5 = over W1 e) := hid (by rw [hW5];exact ovA);have R12 : Hid (Blk W5 (W1.heap.size + e0.heap.size) [.int .u64 (K : Nat)] 26) := hid (by rw [hW5];exact (by exact blA));have r12 := R12.out.cell 0 rfl;have rl12 := R12.out.lt;have S5 : Hid (SlM W5 (some ⟨cb,co,none⟩) c (g0 ++ [])) := hid (Sl.ov S2.out O5.out);have R6 : Hid (Blk W5 w.heap.size [.int .i64 fr,.int .i64 to] 25) := hid (by obtain ⟨e,he⟩ := O5.out;rw [he];exact Blk.on P6.out e);have R7 : Hid (Blk W5 (w.heap.size + 1) [.int .u64 (st : Nat)] 26) := hid (by obtain ⟨e,he⟩ := O5.out;rw [he];exact Blk.on P7.out e);have r6 := R6.out.cell 0 rfl;have rl6 := R6.out.lt;have r7 := R7.out.cell 0 rfl;have rl7 := R7.out.lt;have HOW5 : Hid (OwnU W1.heap.size W5 (.slice ev bs.length ec) bs) := hid (by rw [hW5];exact (by exact ownA HOW.out));have w5 : W1.heap.size ≤ W5.heap.size := by obtain ⟨e,he⟩ := O5.out;rw [he];simp
              clear hW5 q6 q7 x0
              (with_reducible refine (HIX.out _ _ _ _ _ _ S5.out R6.out R7.out R12.out).mono ?_)
              rintro _ _ ⟨⟨e6,rfl⟩,rfl⟩;have S6 : Hid (SlM (over W5 e6) (some ⟨cb,co,none⟩) c g0) := hid (Sl.takeL (Sl.over S5.out e6)))
           | (go_at_call 41;(with_reducible refine (HOF.out _ _ _ (by exact slA S6.out)).mono ?_);rintro _ _ ⟨⟨e7,rfl⟩,rfl⟩)
           | (at_builtin
              refine wpList_append bu_elem Bu.cs_len Bu.cs_one rfl (.tmp 56) (.tmp 66) rfl (w1 := W5) (B := W1) (xs := [(⟨F,⟨An,⟨Aft,Afv⟩,⟨Alt,Alv⟩,Amn,Amx,Ahi,Alo⟩⟩ : Bu)]) HOW5.out rfl rfl ovA (ovB O5.out) (Nat.le_refl _) w5 (by (repeat with_reducible refine Sl.drew ?_);exact Sl.one_new (y := (⟨F,⟨An,⟨Aft,Afv⟩,⟨Alt,Alv⟩,Amn,Amx,Ahi,Alo⟩⟩ : Bu)) (by simp;try omega)) (by simp only [List.length_singleton];unfold maxLen;omega) (by simp only [List.length_singleton];omega) ?_;intro v8 x8 ho8 _ _;have HO8 := hid ho8;clear ho8))
         go_roundw
         case rel =>
          refine ⟨gs ++ [(K,g0)],[],some ⟨cb,(co + g0.length * 2),none⟩,(c - g0.length),HG2.out,rfl,?_,?_,ovA⟩
          · have hdr := Sl.dropR S2.out;rw [if_neg hcg,Option.map_some,Go.WideShapes.add_plain] at hdr;exact hdr
          · rw [List.map_append,HBS.out,List.map_cons,List.map_nil,HBU.out];exact HO8.out
         case measure => (simp [lenOf];try omega)
     · rw [hI] at HIX;clear hI;have hcg : ¬ c = g0.length := by omega
       go_wp2;refine M2.wrm [10,11] 11 (by kernel_rfl) (by kernel_rfl) (by decide) ?_;simp only [M2.td];with_reducible refine M2.mlq 10 (by kernel_rfl) ?_
       simp only [M2.td];repeat (go_big_quiet_step (fail))
       refine wpQuiet_nil ?_;refine M2.mle (by decide) ?_;go_wp2_with (fail)
       refine M2.MixQ.mk ovA ?_;refine M2.mln ?_;refine M2.mle (by decide) ?_;go_wp2_with (fail)
       refine M2.MixQ.mk trivial ?_;refine M2.mln ?_
       go_wp2_with (first
         | (go_at_call 39
            refine gen_c2 ?_;intro W5 hW5;have O5 : Hid (∃ e,W5 = over W1 e) := hid (by rw [hW5];exact ovA);have R12 : Hid (Blk W5 (W1.heap.size + e0.heap.size) [.int .u64 (K : Nat)] 26) := hid (by rw [hW5];exact (by exact blA));have r12 := R12.out.cell 0 rfl;have rl12 := R12.out.lt;have S5 : Hid (SlM W5 (some ⟨cb,co,none⟩) c (g0 ++ g1)) := hid (Sl.ov S2.out O5.out);have R6 : Hid (Blk W5 w.heap.size [.int .i64 fr,.int .i64 to] 25) := hid (by obtain ⟨e,he⟩ := O5.out;rw [he];exact Blk.on P6.out e);have R7 : Hid (Blk W5 (w.heap.size + 1) [.int .u64 (st : Nat)] 26) := hid (by obtain ⟨e,he⟩ := O5.out;rw [he];exact Blk.on P7.out e);have r6 := R6.out.cell 0 rfl;have rl6 := R6.out.lt;have r7 := R7.out.cell 0 rfl;have rl7 := R7.out.lt;have HOW5 : Hid (OwnU W1.heap.size W5 (.slice ev bs.length ec) bs) := hid (by rw [hW5];exact (by exact ownA HOW.out));have w5 : W1.heap.size ≤ W5.heap.size := by obtain ⟨e,he⟩ := O5.out;rw [he];simp
            clear hW5 q6 q7 x0
            (with_reducible refine (HIX.out _ _ _ _ _ _ S5.out R6.out R7.out R12.out).mono ?_)
            rintro _ _ ⟨⟨e6,rfl⟩,rfl⟩;have S6 : Hid (SlM (over W5 e6) (some ⟨cb,co,none⟩) c g0) := hid (Sl.takeL (Sl.over S5.out e6)))
         | (go_at_call 41;(with_reducible refine (HOF.out _ _ _ (by exact slA S6.out)).mono ?_);rintro _ _ ⟨⟨e7,rfl⟩,rfl⟩)
         | (at_builtin
            refine wpList_append bu_elem Bu.cs_len Bu.cs_one rfl (.tmp 56) (.tmp 66) rfl (w1 := W5) (B := W1) (xs := [(⟨F,⟨An,⟨Aft,Afv⟩,⟨Alt,Alv⟩,Amn,Amx,Ahi,Alo⟩⟩ : Bu)]) HOW5.out rfl rfl ovA (ovB O5.out) (Nat.le_refl _) w5 (by (repeat with_reducible refine Sl.drew ?_);exact Sl.one_new (y := (⟨F,⟨An,⟨Aft,Afv⟩,⟨Alt,Alv⟩,Amn,Amx,Ahi,Alo⟩⟩ : Bu)) (by simp;try omega)) (by simp only [List.length_singleton];unfold maxLen;omega) (by simp only [List.length_singleton];omega) ?_;intro v8 x8 ho8 _ _;have HO8 := hid ho8;clear ho8))
       go_roundw
       case rel =>
        refine ⟨gs ++ [(K,g0)],g1,some ⟨cb,(co + g0.length * 2),none⟩,(c - g0.length),HG2.out,rfl,?_,?_,ovA⟩
        · have hdr := Sl.dropR S2.out;rw [if_neg hcg,Option.map_some,Go.WideShapes.add_plain] at hdr;exact hdr
        · rw [List.map_append,HBS.out,List.map_cons,List.map_nil,HBU.out];exact HO8.out
       case measure => (simp [lenOf];try omega)
   · have h00 : rest.length = 0 := by omega
     have hre : rest = [] := List.eq_nil_of_length_eq_zero h00;subst hre;have HG := hid hG;have hbd : decide (1000 < bs.length) = false := decide_eq_false (by omega);have hle2 : w.heap.size ≤ W1.heap.size := by obtain ⟨z,hz⟩ := O1.out;rw [hz];simp
     clear hG hsl;go_wp2;go_ret2
     exact ⟨(ovB O1.out),_,gs,rfl,HG.out,by rw [HBS.out];exact Own.mono HOW.out hle2⟩
end
end Go.Proofs.YtoolooffpphmdaaGreatDoor
