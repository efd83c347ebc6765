/- Texts merged: SpanP, LLaid, Kn25, Both. -/
import Derived.Test.YtneeikjiabpjhaaDoorLib
import Derived.Test.YtneeikjiabpjhaaDoorHE
import Derived.Test.YtneeikjiabpjhaaDoorLayW
import Derived.Test.YtneeikjiabpjhaaDoorKA
import Derived.Test.YtneeikjiabpjhaaDoorKD
import Derived.Test.YtneeikjiabpjhaaDoorKC
namespace Go.Proofs.YtneeikjiabpjhaaDoor
set_option linter.unusedVariables false
set_option linter.unusedSimpArgs false
open Go.RowKit

structure Sp where
  f : Int
  t : Int
  deriving Inhabited, DecidableEq

namespace Sp
def cs (x : Sp) : List Value := [.int .i64 x.f, .int .i64 x.t]
abbrev v (x : Sp) : Value := .agg #[.int .i64 x.f, .int .i64 x.t]
def wf (x : Sp) : Prop := -9223372036854775808 ≤ x.f ∧ x.f ≤ 9223372036854775807 ∧ -9223372036854775808 ≤ x.t ∧ x.t ≤ 9223372036854775807
theorem cs_len (x : Sp) : x.cs.length = 2 := rfl
end Sp

abbrev SlS (w : World) (a : Option Addr) (cap : Nat) (xs : List Sp) : Prop := Sl 2 Sp.cs w a cap xs

theorem SlS.at_ {w : World} {a : Option Addr} {cap : Nat} {xs : List Sp} (h : SlS w a cap xs) {k : Nat} (hk : k < xs.length) :
    ∃ b off, a = some ⟨b, off, none⟩ ∧ b < w.heap.size ∧ w.cell? ⟨b, off + k * 2, none⟩ = some (.int .i64 xs[k].f) ∧ w.cell? ⟨b, off + k * 2 + 1, none⟩ = some (.int .i64 xs[k].t) := by
  obtain ⟨b, off, rfl, hb, hcell⟩ := h.rec_ k xs[k] (List.getElem?_eq_getElem hk)
  exact ⟨b, off, rfl, hb, hcell 0 _ rfl, hcell 1 _ rfl⟩

def apartB (a b : Sp) : Bool := decide (a.t + 1 < b.f)

def spSoundB : List Sp → Bool
  | [] => true
  | x :: l => decide (x.f ≤ x.t) && (match l with | [] => true | y :: _ => apartB x y) && spSoundB l

theorem spSoundB_iff : ∀ xs : List Sp, spSoundB xs = true ↔ ∀ i (h : i < xs.length), xs[i].f ≤ xs[i].t ∧ (0 < i → apartB xs[i - 1] xs[i] = true)
  | [] => by simp [spSoundB]
  | [x] => by
    simp [spSoundB]
  | x :: y :: l => by
    have ih := spSoundB_iff (y :: l)
    simp only [spSoundB, Bool.and_eq_true, decide_eq_true_eq] at ih ⊢
    constructor
    · rintro ⟨⟨h1, h2⟩, h3⟩ i hi
      have h4 := ih.1 h3
      rcases i with _ | i
      · exact ⟨h1, fun h => absurd h (Nat.lt_irrefl _)⟩
      · obtain ⟨h5, h6⟩ := h4 i (by simpa using hi)
        refine ⟨by simpa using h5, fun _ => ?_⟩
        rcases i with _ | i
        · simpa using h2
        · simpa using h6 (by omega)
    · intro h
      refine ⟨⟨(h 0 (by simp)).1, (h 1 (by simp)).2 (by omega)⟩, ih.2 fun i hi => ?_⟩
      obtain ⟨h5, h6⟩ := h (i + 1) (by simpa using hi)
      refine ⟨by simpa using h5, fun h0 => ?_⟩
      rcases i with _ | i
      · omega
      · simpa using h6 (by omega)

theorem spSoundB_bad1 {xs : List Sp} {k : Nat} (hk : k < xs.length) (h : decide (xs[k].t < xs[k].f) = true) : spSoundB xs = false := by
  cases hs : spSoundB xs with
  | false => rfl
  | true => have h1 := ((spSoundB_iff xs).1 hs k hk).1; have h2 := of_decide_eq_true h; omega

theorem spSoundB_bad2 {xs : List Sp} {k : Nat} (hk : k < xs.length) (h0 : 0 < k) (h : apartB xs[k - 1] xs[k] = false) : spSoundB xs = false := by
  cases hs : spSoundB xs with
  | false => rfl
  | true => have h1 := ((spSoundB_iff xs).1 hs k hk).2 h0; rw [h] at h1; cases h1

/-- What is sound up to k. -/
def soundTo (xs : List Sp) (k : Nat) : Prop := ∀ i (_ : i < k) (h : i < xs.length), xs[i].f ≤ xs[i].t ∧ (0 < i → apartB xs[i - 1] xs[i] = true)

theorem soundTo_zero (xs : List Sp) : soundTo xs 0 := fun i h => absurd h (Nat.not_lt_zero i)
theorem soundTo_succ {xs : List Sp} {k : Nat} (h : soundTo xs k) (hk : k < xs.length) (h1 : decide (xs[k].t < xs[k].f) = false) (h2 : 0 < k → apartB xs[k - 1] xs[k] = true) : soundTo xs (k + 1) := by
  intro i hi hl
  rcases Nat.lt_or_ge i k with hlt | hge
  · exact h i hlt hl
  · obtain rfl : i = k := by omega
    have := of_decide_eq_false h1
    exact ⟨by omega, h2⟩
theorem soundTo_all {xs : List Sp} {k : Nat} (h : soundTo xs k) (hk : ¬ k < xs.length) : spSoundB xs = true :=
  (spSoundB_iff xs).2 fun i hi => h i (by omega) hi

/-! ### What the calls compute -/

def mrg (s x : Sp) : Sp := ⟨if x.f < s.f then x.f else s.f, if s.t < x.t then x.t else s.t⟩
/-- 'Add', behind its test: the spans that are left, the span, those told. -/
def addGo : List Sp → Sp → List Sp → List Sp
  | [], s, out => out ++ [s]
  | x :: l, s, out =>
    if apartB x s then addGo l s (out ++ [x])
    else if apartB s x then addGo l x (out ++ [s])
    else addGo l (mrg s x) out

theorem mrg_wf {s x : Sp} (h : s.wf) (h' : x.wf) : (mrg s x).wf := by unfold Sp.wf mrg at *; simp only; split <;> split <;> omega

def okSp (l : List Sp) (s : Sp) : Bool := spSoundB l && decide (s.f ≤ s.t)
def addS (l : List Sp) (s : Sp) : List Sp := if okSp l s then addGo l s [] else []

/-- 'Drop' of one span. -/
def dropOne (s x : Sp) : List Sp :=
  if s.t < x.f then [x] else (if x.f < s.f then [⟨x.f, s.f - 1⟩] else []) ++ (if s.t < x.t then [⟨s.t + 1, x.t⟩] else [])
def dropGo (s : Sp) (l : List Sp) : List Sp := l.flatMap (dropOne s)
/-- how many spans end ahead of a time -/
def findS (l : List Sp) (t : Int) : Nat := (l.takeWhile fun x => decide (x.t < t)).length
def dropS (l : List Sp) (s : Sp) : List Sp := if okSp l s then l.take (findS l s.f) ++ dropGo s (l.drop (findS l s.f)) else []

def hasS (l : List Sp) (t : Int) : Bool := l.any fun s => decide (s.f ≤ t) && decide (t ≤ s.t)

def meet2 (x y : Sp) : Sp := ⟨if x.f < y.f then y.f else x.f, if y.t < x.t then y.t else x.t⟩
def meetPut (x y : Sp) (out : List Sp) : List Sp := if decide ((meet2 x y).f ≤ (meet2 x y).t) then out ++ [meet2 x y] else out
def meetGo : Nat → List Sp → List Sp → List Sp → List Sp
  | 0, _, _, out => out
  | n + 1, x :: a, y :: b, out => if decide (x.t < y.t) then meetGo n a (y :: b) (meetPut x y out) else meetGo n (x :: a) b (meetPut x y out)
  | _ + 1, _, _, out => out
def meetS (a b : List Sp) : List Sp := if spSoundB a && spSoundB b then meetGo (a.length + b.length) a b [] else []

theorem meetGo_a {xs ys zs : List Sp} (hx : 0 < xs.length) (hy : 0 < ys.length) (h : decide (xs[0].t < ys[0].t) = true) :
    meetGo (xs.length + ys.length) xs ys zs = meetGo ((xs.drop 1).length + ys.length) (xs.drop 1) ys (meetPut xs[0] ys[0] zs) := by
  cases xs with
  | nil => simp at hx
  | cons x a =>
    cases ys with
    | nil => simp at hy
    | cons y b =>
      rw [show (x :: a).length + (y :: b).length = (a.length + (y :: b).length) + 1 by simp; omega]
      simp only [List.getElem_cons_zero] at h
      simp [meetGo, h]
theorem meetGo_b {xs ys zs : List Sp} (hx : 0 < xs.length) (hy : 0 < ys.length) (h : decide (xs[0].t < ys[0].t) = false) :
    meetGo (xs.length + ys.length) xs ys zs = meetGo (xs.length + (ys.drop 1).length) xs (ys.drop 1) (meetPut xs[0] ys[0] zs) := by
  cases xs with
  | nil => simp at hx
  | cons x a =>
    cases ys with
    | nil => simp at hy
    | cons y b =>
      rw [show (x :: a).length + (y :: b).length = ((x :: a).length + b.length) + 1 by simp; omega]
      simp only [List.getElem_cons_zero] at h
      simp [meetGo, h]
theorem meetGo_end {xs ys zs : List Sp} {n : Nat} (h : xs.length = 0 ∨ ys.length = 0) : meetGo n xs ys zs = zs := by
  cases n with
  | zero => rfl
  | succ n =>
    cases xs with
    | nil => cases ys <;> rfl
    | cons x a =>
      cases ys with
      | nil => rfl
      | cons y b => simp at h
theorem meetPut_yes {x y : Sp} {out : List Sp} (h : decide ((meet2 x y).f ≤ (meet2 x y).t) = true) : meetPut x y out = out ++ [meet2 x y] := by simp only [meetPut, h, if_true]
theorem meetPut_no {x y : Sp} {out : List Sp} (h : decide ((meet2 x y).f ≤ (meet2 x y).t) = false) : meetPut x y out = out := by simp only [meetPut, h]; rfl

/-- how many times -/
def cnt : List Sp → Int
  | [] => 0
  | s :: l => (s.t - s.f + 1) + cnt l
def cntW (l : List Sp) : Int := IntKind.u64.wrap (cnt l)
def countV (l : List Sp) : Value := if spSoundB l then .tuple #[.int .u64 (cntW l), .bool (decide (0 < cntW l) || l.isEmpty)] else .tuple #[.int .u64 0, .bool false]

theorem cnt_snoc (l : List Sp) (s : Sp) : cnt (l ++ [s]) = cnt l + (s.t - s.f + 1) := by
  induction l with
  | nil => simp [cnt]
  | cons x l ih => simp only [List.cons_append, cnt, ih]; omega
theorem cntW_step (l : List Sp) (s : Sp) : IntKind.u64.wrap (cntW l + IntKind.u64.wrap (IntKind.u64.wrap (wrap64 (s.t - s.f)) + 1)) = cntW (l ++ [s]) := by
  unfold cntW; rw [cnt_snoc]; simp only [IntKind.wrap_u64]; unfold wrap64; omega
theorem cntW_step' (l : List Sp) (s : Sp) : IntKind.u64.wrap (cntW l + IntKind.u64.wrap (IntKind.u64.wrap (IntKind.u64.wrap s.t - IntKind.u64.wrap s.f) + 1)) = cntW (l ++ [s]) := by
  unfold cntW; rw [cnt_snoc]; simp only [IntKind.wrap_u64]; omega
theorem take_snoc' {α : Type} {xs : List α} {k : Nat} (h : k < xs.length) : xs.take (k + 1) = xs.take k ++ [xs[k]] := by
  rw [List.take_succ_eq_append_getElem h]
theorem cntW_nil : cntW [] = 0 := by simp [cntW, cnt, IntKind.wrap_u64]
theorem countV_ok {l : List Sp} {N : Int} {b : Bool} (hs : spSoundB l = true) (hN : N = cntW (l.take l.length)) (hb : b = (decide (0 < N) || l.isEmpty)) : Value.tuple #[.int .u64 N, .bool b] = countV l := by
  rw [List.take_length] at hN
  subst hN; subst hb
  simp [countV, hs]
theorem countV_no {l : List Sp} (hs : spSoundB l = false) : Value.tuple #[.int .u64 0, .bool false] = countV l := by simp [countV, hs]

theorem hasS_hit {l : List Sp} {t : Int} {k : Nat} (h : k < l.length) (h1 : decide (l[k].f ≤ t) = true) (h2 : decide (t ≤ l[k].t) = true) : hasS l t = true := by
  unfold hasS
  rw [List.any_eq_true]
  exact ⟨l[k], List.getElem_mem h, by rw [h1, h2]; rfl⟩
theorem hasS_step {l : List Sp} {t : Int} {k : Nat} (hh : hasS (l.take k) t = false) (h : k < l.length) (h1 : (decide (l[k].f ≤ t) && decide (t ≤ l[k].t)) = false) : hasS (l.take (k + 1)) t = false := by
  unfold hasS at *
  rw [take_snoc' h, List.any_append, hh]
  simp only [List.any_cons, List.any_nil, h1, Bool.or_false, Bool.or_self]

theorem same_end {xs ys : List Sp} {k : Nat} (hl : xs.length = ys.length) (h : xs.take k = ys.take k) (hk : ¬ k < xs.length) : decide (xs = ys) = true := by
  rw [List.take_of_length_le (by omega), List.take_of_length_le (by omega)] at h
  simp [h]
theorem same_step {xs ys : List Sp} {k : Nat} (h : xs.take k = ys.take k) (h1 : k < xs.length) (h2 : k < ys.length) (he : xs[k] = ys[k]) : xs.take (k + 1) = ys.take (k + 1) := by
  rw [take_snoc' h1, take_snoc' h2, h, he]
theorem same_no {xs ys : List Sp} {k : Nat} (h1 : k < xs.length) (h2 : k < ys.length) (he : ¬ xs[k] = ys[k]) : decide (xs = ys) = false := by
  rw [decide_eq_false_iff_not]; intro h; subst h; exact he rfl
theorem same_len {xs ys : List Sp} (h : (((xs.length : Nat) : Int) != ((ys.length : Nat) : Int)) = true) : decide (xs = ys) = false := by
  rw [decide_eq_false_iff_not]; intro hh; subst hh; simp at h

end Go.Proofs.YtneeikjiabpjhaaDoor
namespace Go.Proofs.YtneeikjiabpjhaaDoor
set_option linter.unusedVariables false
set_option linter.unusedSimpArgs false
open Go.RowKit

theorem lsz_ok (size : Int) : 1 ≤ lsz size ∧ lsz size ≤ 24 := by unfold lsz; omega
/-- What is known of a book that was laid. -/
structure Laid (W : World) (base b mb sz : Nat) (L : List Se) (S : List (Nat × Sr)) (rs : List Rs) : Prop where
  bk : BkAt base W b 64 sz mb L
  eq : bkOf L = S
  len : rs.length = S.length
  at_ : ∀ k, (h : k < rs.length) → ∃ h2 : k < S.length, rs[k].id = S[k].1 ∧ rs[k].l = S[k].2.all
  I : LayI sz 60 S
theorem LayI.mono {sz k n : Nat} {S : List (Nat × Sr)} (h : LayI sz k S) (hk : k ≤ n) : LayI sz n S := ⟨by have := h.len; omega, fun x hx => ⟨by have := (h.all x hx).1; omega, (h.all x hx).2⟩, h.full, h.ids⟩
theorem laid_of {W : World} {base b mb sz : Nat} {L : List Se} {ops : List (Nat × Sm)} {rs : List Rs} (hsz : 1 ≤ sz) (hl : ops.length ≤ 60) (h : BkAt base W b 64 sz mb L) (he : bkOf L = layS sz ops) (hm : rs.map (fun r => (r.id, r.l)) = allS (layS sz ops)) : Laid W base b mb sz L (layS sz ops) rs := by
  have hlen : rs.length = (layS sz ops).length := by have := congrArg List.length hm; simpa [allS] using this
  have hI := layI hsz ops ops.length (Nat.le_refl _)
  rw [List.take_length] at hI
  refine ⟨h, he, hlen, fun j hj => ?_, hI.mono hl⟩
  have h2 : j < (layS sz ops).length := by omega
  have h3 := congrArg (fun l => l[j]?) hm
  simp [allS, List.getElem?_eq_getElem hj, List.getElem?_eq_getElem h2] at h3
  exact ⟨h2, h3.1, h3.2⟩
/-- The k-th series. -/
structure LaidK (L : List Se) (S : List (Nat × Sr)) (rs : List Rs) (k id : Nat) (s : Sr) : Prop where
  nid : ∀ h : k < rs.length, rs[k].id = id
  l : ∀ h : k < rs.length, rs[k].l = s.all
  get : getS (bkOf L) id = s
  ok : SrOk s
  all : s.all.length ≤ 60
  cl : s.cl.length ≤ 60
theorem Laid.k {W : World} {base b mb sz : Nat} {L : List Se} {S : List (Nat × Sr)} {rs : List Rs} (h : Laid W base b mb sz L S rs) {k : Nat} (hk : k < rs.length) : ∃ id s, LaidK L S rs k id s := by
  obtain ⟨h2, h3, h4⟩ := h.at_ k hk
  have hg : getS (bkOf L) S[k].1 = S[k].2 := by rw [h.eq]; exact getS_at h.I.ids h2
  have hok : SrOk S[k].2 := by rw [← hg]; exact getS_ok h.bk _
  have ha := (h.I.all _ (List.getElem_mem h2)).1
  exact ⟨S[k].1, S[k].2, fun _ => h3, fun _ => h4, hg, hok, ha, cl_le hok ha⟩
theorem ret_eq {w w' : World} {v : Value} {en : Ending} (h : Ret w v en w') : en = .returned v ∧ ∃ e, w' = over w e := ⟨h.2, h.1⟩
theorem Laid.ov {W W' : World} {base b mb sz : Nat} {L : List Se} {S : List (Nat × Sr)} {rs : List Rs} (h : Laid W base b mb sz L S rs) (ho : ∃ e, W' = over W e) : Laid W' base b mb sz L S rs := by
  obtain ⟨e, rfl⟩ := ho
  exact ⟨h.bk.on e, h.eq, h.len, h.at_, h.I⟩
end Go.Proofs.YtneeikjiabpjhaaDoor
namespace Go.Proofs.YtneeikjiabpjhaaDoor
set_option linter.unusedVariables false
set_option linter.unusedSimpArgs false
open Go.RowKit
attribute [local go_sem] over_drew chg_drew

abbrev fS1 : List (Nat × Sr) := [(7, ⟨[], [⟨1, 2⟩]⟩)]
abbrev fS2 : List (Nat × Sr) := [(7, ⟨[], [⟨1, 2⟩, ⟨3, 5⟩]⟩)]
abbrev fS3 : List (Nat × Sr) := [(7, ⟨[], k25⟩)]
theorem f_may1 : (getS [] 7).may 1 := by simp [getS, Sr.may, Sr.zero]
theorem f_put1 : putS 4 [] 7 ⟨1, 2⟩ = fS1 := by rfl
theorem f_get1 : getS fS1 7 = ⟨[], [⟨1, 2⟩]⟩ := by rfl
theorem f_get2 : getS fS2 7 = ⟨[], [⟨1, 2⟩, ⟨3, 5⟩]⟩ := by rfl
theorem f_get3 : getS fS3 7 = ⟨[], k25⟩ := by rfl
theorem f_last1 : (knowC En.zero [⟨1, 2⟩]).last = 1 := by kernel_rfl
theorem f_last2 : (knowC En.zero [⟨1, 2⟩, ⟨3, 5⟩]).last = 3 := by kernel_rfl
theorem f_may2 : (getS fS1 7).may 3 := by
  rw [f_get1]; unfold Sr.may; rw [if_neg (by simp), f_last1]; decide
theorem f_may3 : (getS fS2 7).may 9 := by
  rw [f_get2]; unfold Sr.may; rw [if_neg (by simp), f_last2]; decide
theorem f_put2 : putS 4 fS1 7 ⟨3, 5⟩ = fS2 := by rfl
theorem f_put3 : putS 4 fS2 7 ⟨9, 1⟩ = fS3 := by rfl
theorem f_there {L : List Se} {S : List (Nat × Sr)} {s : Sr} (h : bkOf L = [(7, s)]) : ∃ i, ∃ h : i < L.length, L[i].id = 7 := by
  have hl : L.length = 1 := by rw [bk_len h]; rfl
  refine ⟨0, by omega, ?_⟩
  have h1 := congrArg (fun l => l[0]?) h
  simp [List.getElem?_eq_getElem (show 0 < L.length by omega)] at h1
  exact h1.1
theorem f_last : lastS k25 8 = (⟨3, 5⟩, true) := by rfl
/-- A step of the book, over what stands. -/
def BkSt (w : World) (b mb : Nat) (S : List (Nat × Sr)) (w' : World) : Prop := ∃ L, (∃ e, w' = over w e) ∧ BkAt w.heap.size w' b 1 4 mb L ∧ bkOf L = S
theorem bkst_put {w w1 : World} {b mb : Nat} {S S' : List (Nat × Sr)} {s : Sr} {x : Sm} (hT : TabW w) (h : BkSt w b mb S w1) (hS : S = [(7, s)]) (hm : (getS S 7).may x.t) (hp : putS 4 S 7 x = S') (hcl : s.cl.length ≤ 900) (hx : x.wf) :
    ∀ W, (∃ e, W = over w1 e) → Calls Tryd.prog 15 #[.pointer (some ⟨b, 0, none⟩), .int .u32 7, .agg #[.int .i64 x.t, .int .u64 (x.v : Nat)]] W (fun en w' => en = .returned (.int .u16 0) ∧ BkSt w b mb S' w') := by
  intro W hW
  obtain ⟨L, ho, hb, hL⟩ := h
  have hoW : ∃ e, W = over w e := ov_tr ho hW
  have hle : w.heap.size ≤ W.heap.size := by obtain ⟨e, rfl⟩ := hoW; simp
  refine (put_there (bk_ov hb hW) hle (TabW.ov hT hoW) (by rw [bk_len hL, hS]; simp) (by omega) (by omega) (id := 7) (f_there (S := S) (by rw [hL, hS])) (by rw [hL, hS]; exact hcl) x hx).mono ?_
  intro en w' hpp
  unfold PutB at hpp
  rw [hL, if_pos hm, hp] at hpp
  obtain ⟨rfl, L2, hc, hb2, hs2, hf, hd⟩ := hpp
  refine ⟨rfl, L2, Chg.ov hoW hc (fun k hk => ?_), hb2, hs2⟩
  exact (hb.blt k (bkF_B hk)).1
set_option maxRecDepth 100000 in
set_option maxHeartbeats 4000000 in
theorem kn25_any (w : World) (hT : TabW w) : Calls Tryd.prog 6 #[] w (Ret w (.bool true)) := by
  have HN : Hid (∀ W, Calls Tryd.prog 14 #[.int .i64 1, .int .i64 4] W (NewPost W 1 4)) := hid (fun W => new_any 1 4 (by omega) (by omega) W)
  have HT := hid hT
  clear hT
  go_enter Tryd.func6, Tryd.ntmps6
  go_wp2_with (first
    | (go_at_call 14
       (with_reducible refine (HN.out _).mono ?_)
       rintro _ W0 ⟨b, mb, rfl, hov, hb⟩
       have HP1 : Hid (∀ W, (∃ e, W = over W0 e) → Calls Tryd.prog 15 #[.pointer (some ⟨b, 0, none⟩), .int .u32 7, .agg #[.int .i64 1, .int .u64 2]] W (fun en w' => en = .returned (.int .u16 0) ∧ BkSt w b mb fS1 w')) := hid (fun W hW =>
         (put_any (bk_ov hb hW) (by obtain ⟨e, rfl⟩ := hW; obtain ⟨e', he'⟩ := hov; rw [he']; simp; omega) (TabW.ov HT.out (ov_tr hov hW)) (by simp) (by omega) (by omega) (by omega) (id := 7) (by omega) (by simp [getS, Sr.zero]) ⟨1, 2⟩ (kn_wf _ _ (by omega) (by omega))).mono (fun en w' hp => by
           unfold PutB at hp
           rw [show bkOf ([] : List Se) = [] from rfl, if_pos f_may1, f_put1] at hp
           obtain ⟨rfl, L2, hc, hb2, hs2, hf, hd⟩ := hp
           refine ⟨rfl, L2, Chg.ov (ov_tr hov hW) hc (fun k hk => ?_), hb2, hs2⟩
           exact (hb.blt k (bkF_B hk)).1))
       clear hov hb)
    | (go_at_call 15
       (with_reducible refine (HP1.out _ (by (try unfold Ov); exact ovA)).mono ?_)
       rintro _ W1 ⟨rfl, hk1⟩
       have HP2 : Hid (∀ W, (∃ e, W = over W1 e) → Calls Tryd.prog 15 #[.pointer (some ⟨b, 0, none⟩), .int .u32 7, .agg #[.int .i64 3, .int .u64 5]] W (fun en w' => en = .returned (.int .u16 0) ∧ BkSt w b mb fS2 w')) := hid (bkst_put (x := ⟨3, 5⟩) HT.out hk1 rfl f_may2 f_put2 (by simp) (kn_wf _ _ (by omega) (by omega)))
       clear HP1 hk1)
    | (go_at_call 15
       (with_reducible refine (HP2.out _ (by (try unfold Ov); exact ovA)).mono ?_)
       rintro _ W2 ⟨rfl, hk2⟩
       have HP3 : Hid (∀ W, (∃ e, W = over W2 e) → Calls Tryd.prog 15 #[.pointer (some ⟨b, 0, none⟩), .int .u32 7, .agg #[.int .i64 9, .int .u64 1]] W (fun en w' => en = .returned (.int .u16 0) ∧ BkSt w b mb fS3 w')) := hid (bkst_put (x := ⟨9, 1⟩) HT.out hk2 rfl f_may3 f_put3 (by simp) (kn_wf _ _ (by omega) (by omega)))
       clear HP2 hk2)
    | (go_at_call 15
       (with_reducible refine (HP3.out _ (by (try unfold Ov); exact ovA)).mono ?_)
       rintro _ W3 ⟨rfl, hk3⟩
       obtain ⟨L, ho, hb, hL⟩ := hk3
       have hg : getS (bkOf L) 7 = ⟨[], k25⟩ := by rw [hL]; exact f_get3
       have hT3 := TabW.ov HT.out ho
       have hal : Sr.all ⟨[], k25⟩ = k25 := rfl
       have O3 := hid ho
       have HBt : Hid (∀ W, (∃ e, W = over W3 e) → Calls Tryd.prog 8 #[.pointer (some ⟨b, 0, none⟩), .int .u32 7, .agg #[.int .i64 2, .int .i64 9]] W (Gives W fun v w' => OwnM W.heap.size w' v [⟨3, 5⟩, ⟨9, 1⟩])) := hid (fun W hW => by
         have k := between_any (bk_ov hb hW) (TabW.ov hT3 hW) 7 hg (by rw [hal]; exact k25_rise) (by simp) (by rw [hal]; simp [k25]) 2 9
         rw [hal, k25_betw] at k
         exact k)
       have HLa : Hid (∀ W, (∃ e, W = over W3 e) → Calls Tryd.prog 10 #[.pointer (some ⟨b, 0, none⟩), .int .u32 7, .int .i64 8] W (Ret W (.tuple #[.agg #[.int .i64 3, .int .u64 5], .bool true]))) := hid (fun W hW => by
         have k := flast_any (bk_ov hb hW) (TabW.ov hT3 hW) 7 hg (by rw [hal]; exact k25_rise) (by simp) (by rw [hal]; simp [k25]) 8
         rw [hal, f_last] at k
         exact k)
       have HSt : Hid (∀ W, (∃ e, W = over W3 e) → Calls Tryd.prog 11 #[.pointer (some ⟨b, 0, none⟩), .int .u32 7, .agg #[.int .i64 0, .int .i64 9], .int .u64 4] W (Gives W fun v w' => ∃ u, v = .tuple #[u, .int .u16 0] ∧ OwnU W.heap.size w' u [⟨0, agC [⟨1, 2⟩, ⟨3, 5⟩]⟩, ⟨8, agC [⟨9, 1⟩]⟩])) := hid (fun W hW => by
         have k := steps_any (bk_ov hb hW) (TabW.ov hT3 hW) 7 hg (by rw [hal]; exact k25_rise) (by rw [hal]; intro x hx; simp [k25] at hx; rcases hx with rfl | rfl | rfl <;> exact kn_wf _ _ (by omega) (by omega)) (by simp) (by rw [hal]; simp [k25]) 0 9 (by omega) 4 (by omega) (by omega) (by omega)
         rw [hal] at k
         refine k.mono ?_
         rintro en w' ⟨h1, v, gs, rfl, hG, ho⟩
         rw [k25_step hG] at ho
         exact ⟨h1, _, rfl, v, rfl, ho⟩)
       clear ho hb hL hg hT3 HP3)
    | (go_at_call 8; (with_reducible refine (HBt.out _ (by (try unfold Ov); exact ovA)).mono ?_); rintro _ _ ⟨⟨e4, rfl⟩, v4, rfl, o4⟩; obtain ⟨a4, c4, rfl, s4⟩ := Own.slice Sm.cs_len o4; obtain ⟨b4, f4, rfl, h4, q40, q41⟩ := SlM.at_ s4 (k := 0) (by simp); simp at h4 q40; clear o4 s4 q41)
    | (go_at_call 10; (with_reducible refine (HLa.out _ (by (try unfold Ov); exact ovA)).mono ?_); rintro _ _ ⟨⟨e5, rfl⟩, rfl⟩)
    | (go_at_call 11
       (with_reducible refine (HSt.out _ (by (try unfold Ov); exact ovA)).mono ?_)
       rintro _ _ ⟨⟨e6, rfl⟩, v6, rfl, u6, rfl, o6⟩
       obtain ⟨a6, c6, rfl, s6⟩ := Own.slice Bu.cs_len o6
       obtain ⟨ub, uo, rfl, hub, hc0⟩ := s6.rec_ 0 _ rfl
       obtain ⟨ub1, uo1, he1, _, hc1⟩ := s6.rec_ 1 _ rfl
       cases he1
       have u1 := hc0 1 _ rfl
       have u2 := hc1 0 _ rfl
       simp at hub u1 u2
       clear o6 s6 hc0 hc1))
  go_ret
  exact ⟨(by (try unfold Ov); exact ovB O3.out), rfl⟩
end Go.Proofs.YtneeikjiabpjhaaDoor
namespace Go.Proofs.YtneeikjiabpjhaaDoor
set_option linter.unusedVariables false
set_option linter.unusedSimpArgs false
open Go.RowKit
attribute [local go_sem] over_drew chg_drew

/-- What both comes to. -/
def BothPost (w : World) (sz : Nat) (ops : List (Nat × Sm)) (en : Ending) (w' : World) : Prop :=
  ∃ b mb L p v rr R a cap rs, en = .returned (.tuple #[.pointer (some ⟨b, 0, none⟩), .pointer (some ⟨p, 0, none⟩), .slice a (rs : List Rs).length cap]) ∧ (∃ e, w' = over w e) ∧ Laid w' w.heap.size b mb sz L (layS sz ops) rs ∧ Sl 2 Rs.cs w' a cap rs ∧ (∀ r ∈ rs, SlM w' r.a r.c r.l) ∧
    RbAt w.heap.size w' p sz v rr R ∧ ∀ id, getS R id = getS (layS sz ops) id
/-- So far. -/
def BothI (W1 : World) (p sz : Nat) (S : List (Nat × Sr)) (i : Nat) (wr : World) : Prop := ∃ v rr R, RbAt W1.heap.size wr p sz v rr R ∧ RB S R i []
def BothK (W1 : World) (p sz : Nat) (S : List (Nat × Sr)) (i id : Nat) (l : List Sm) (wr : World) : Prop := ∃ v rr R, RbAt W1.heap.size wr p sz v rr R ∧ RB S R i [id] ∧ getS R id = putL sz l
theorem BothI.ov {W1 w w' : World} {p sz : Nat} {S : List (Nat × Sr)} {i : Nat} (h : BothI W1 p sz S i w) (ho : ∃ e, w' = over w e) : BothI W1 p sz S i w' := by
  obtain ⟨v, rr, R, h1, h2⟩ := h
  exact ⟨v, rr, R, RbAt.ov h1 ho, h2⟩
theorem BothK.ov {W1 w w' : World} {p sz : Nat} {S : List (Nat × Sr)} {i id : Nat} {l : List Sm} (h : BothK W1 p sz S i id l w) (ho : ∃ e, w' = over w e) : BothK W1 p sz S i id l w' := by
  obtain ⟨v, rr, R, h1, h2⟩ := h
  exact ⟨v, rr, R, RbAt.ov h1 ho, h2⟩
theorem BothI.start {W1 w : World} {p sz : Nat} {S : List (Nat × Sr)} (hn : (S.map (·.1)).Nodup) {i id : Nat} (hi : i < S.length) (hid : S[i].1 = id) (h : BothI W1 p sz S i w) : BothK W1 p sz S i id [] w := by
  obtain ⟨v, rr, R, h1, h2⟩ := h
  refine ⟨v, rr, R, h1, h2.weak _, ?_⟩
  rw [← hid]
  exact RB.zero hn hi h2
theorem BothK.stop_ {W1 w : World} {p sz : Nat} {S : List (Nat × Sr)} {i id : Nat} (hi : i < S.length) (hid : S[i].1 = id) {l : List Sm} (hl : S[i].2 = putL sz l) (h : BothK W1 p sz S i id l w) : BothI W1 p sz S (i + 1) w := by
  obtain ⟨v, rr, R, h1, h2, h3⟩ := h
  subst hid
  exact ⟨v, rr, R, h1, RB.next hi h2 (by rw [h3, hl])⟩
theorem putL_ne (sz : Nat) (l : List Sm) : ∀ c ∈ (putL sz l).cl, c ≠ [] := by
  have : ∀ (l : List Sm) (s : Sr), (∀ c ∈ s.cl, c ≠ []) → ∀ c ∈ (l.foldl (fun s x => s.put sz x) s).cl, c ≠ [] := by
    intro l
    induction l with
    | nil => intro s h; exact h
    | cons x l ih =>
      intro s h
      refine ih _ ?_
      show ∀ c ∈ (s.put sz x).cl, c ≠ []
      unfold Sr.put
      split
      · intro c hc
        rcases List.mem_append.1 hc with h1 | h1
        · exact h c h1
        · rw [List.mem_singleton] at h1; subst h1; simp
      · exact h
  exact this l Sr.zero (by simp [Sr.zero])
theorem cl_le2 {s : Sr} (h : ∀ c ∈ s.cl, c ≠ []) : s.cl.length ≤ s.all.length := by
  have : ∀ l : List (List Sm), (∀ c ∈ l, c ≠ []) → l.length ≤ l.flatten.length := by
    intro l
    induction l with
    | nil => intro _; simp
    | cons c l ih =>
      intro h
      have h1 := ih (fun x hx => h x (by simp [hx]))
      have h2 : 0 < c.length := List.length_pos_iff.2 (h c (by simp))
      simp only [List.length_cons, List.flatten_cons, List.length_append]
      omega
  have h1 := this s.cl h
  unfold Sr.all
  rw [List.length_append]
  omega
/-- One sample more. -/
theorem both_put {W1 w : World} {p sz : Nat} {S : List (Nat × Sr)} (hn : (S.map (·.1)).Nodup) (hsl : S.length ≤ 60) {i id : Nat} (hi : i < S.length) (hid_ : S[i].1 = id) {l : List Sm} {x : Sm} (hl : l.length ≤ 60) (hcl : (putL sz l).cl.length ≤ 60) (hm : ∀ l' y, l = l' ++ [y] → y.t < x.t) (ho : ∃ e, w = over W1 e) (h : BothK W1 p sz S i id l w) :
    Calls Tryd.prog 18 #[.pointer (some ⟨p, 0, none⟩), .int .u32 (id : Nat), .agg #[.int .i64 x.t, .int .u64 (x.v : Nat)]] w fun en w' => en = .returned (.int .i64 0) ∧ (∃ e, w' = over W1 e) ∧ BothK W1 p sz S i id (l ++ [x]) w' := by
  obtain ⟨v, rr, R, h1, h2, h3⟩ := h
  have hlen : rr.length ≤ 61 := by
    have := h2.len (by omega)
    have := h1.len
    simp at *
    omega
  have hle : W1.heap.size ≤ w.heap.size := by obtain ⟨e, rfl⟩ := ho; simp
  refine (rbput_any h1 hle id (.inl (by omega)) (by omega) h3 (by rw [putL_all]; omega) (by omega) x (by rw [putL_all]; exact hm)).mono ?_
  rintro en w' ⟨rfl, v', rr', hc, hr⟩
  refine ⟨rfl, Chg.ov ho hc (fun k hk => ?_), v', rr', _, hr, ?_, ?_⟩
  · rcases List.mem_cons.1 hk with rfl | hk
    · exact h1.lo
    · exact (Own.lt h1.row (by simpa using hk)).1
  · subst hid_
    exact RB.put hn hi h2 _
  · rw [rset_get h1.sort, putL_snoc]
set_option maxRecDepth 100000 in
set_option maxHeartbeats 4000000 in
theorem both_any (size : Int) (hz : -9223372036854775808 ≤ size ∧ size ≤ 9223372036854775807) (xs : List Opr) (hx : ∀ o ∈ xs, o.wf) (hl : xs.length ≤ 60) (a : Option Addr) (cap : Nat) (w : World) (hT : TabW w) (hs : SlO w a cap xs) :
    Calls Tryd.prog 7 #[.int .i64 size, .slice a xs.length cap] w (BothPost w (lsz size) (opsL xs)) := by
  have HLay := hid (fun W (h1 : TabW W) (h2 : SlO W a cap xs) => layB_any size hz xs hx hl a cap W h1 h2)
  have hsz1 := lsz_ok size
  have hsi : 1 + max size 0 % 24 = (lsz size : Int) := by
    unfold lsz
    omega
  obtain ⟨sz, hsz⟩ : ∃ sz, lsz size = sz := ⟨_, rfl⟩
  rw [hsz] at HLay hsz1 hsi ⊢
  have HN : Hid (∀ W, Calls Tryd.prog 17 #[.int .i64 64, .int .i64 (sz : Nat)] W _) := hid (fun W => rnewb_any sz hsz1 W)
  have HSI := hid hsi
  have hol : (opsL xs).length ≤ 60 := by simp [opsL]; exact hl
  obtain ⟨ops, hops⟩ : ∃ ops, opsL xs = ops := ⟨_, rfl⟩
  rw [hops] at HLay hol ⊢
  have HPut := hid (fun (l : List (Nat × Sm)) => lay_put (sz := sz) l)
  have HRise := hid (fun (l : List (Nat × Sm)) => all_rise (sz := sz) l)
  clear hx hsz hsi hops
  go_enter Tryd.func7, Tryd.ntmps7
  go_wp2_with (first
    | (go_at_call 16
       (with_reducible refine (HLay.out _ (by exact tabA hT) (by exact slA hs)).mono ?_)
       rintro _ W1 ⟨b, mb, L, al, cl, rs, rfl, ⟨e1, hW1⟩, hb, he, hsl, hrows, hmap⟩
       have O1 : Hid (∃ e, W1 = over w e) := hid (by rw [hW1]; exact (by (try unfold Ov); exact ovA))
       have hLd := laid_of hsz1.1 hol hb he hmap
       have HL := hid hLd
       have HSL := hid hsl
       have HRW := hid hrows
       have hrl : rs.length ≤ 60 := by rw [hLd.len]; exact hLd.I.len
       clear hW1 hb he hmap hLd hsl hrows)
    | (rw [HSI.out]
       go_at_call 17
       (with_reducible refine (HN.out _).mono ?_)
       rintro _ W2 ⟨p, rfl, ⟨e2, hW2⟩, hrb⟩
       have O2 : Hid (∃ e, W2 = over W1 e) := hid (by rw [hW2]; exact (by (try unfold Ov); exact ovA))
       have HB0 : Hid (BothI W1 p sz (layS sz ops) 0 W2) := hid ⟨_, _, _, hrb, RB.nil _⟩
       clear hW2 hrb))
  go_loopw [10, 11] (fun i _ wr => ∃ k : Nat, k ≤ rs.length ∧ i = .int .i64 (k : Nat) ∧ BothI W1 p sz (layS sz ops) k wr ∧ Ov W1 wr) (fun i _ _ => rs.length - (intOf i).toNat)
  case atStart => exact ⟨0, Nat.zero_le _, rfl, HB0.out, (by (try unfold Ov); exact ovB O2.out)⟩
  case round =>
    obtain ⟨k, hk, rfl, hB, ⟨e0, rfl⟩⟩ := hrel
    have HB := hid hB
    clear hB
    by_cases hlt : k < rs.length
    · obtain ⟨bl, off, rfl, hbl, x0, x1⟩ := SlR.at_ HSL.out hlt
      obtain ⟨h2, h3, h4⟩ := HL.out.at_ k hlt
      have hrow := HRW.out _ (List.getElem_mem hlt)
      have hpl := HPut.out ops _ (List.getElem_mem h2)
      have hri := HRise.out ops _ (List.getElem_mem h2)
      have hal := (HL.out.I.all _ (List.getElem_mem h2)).1
      rw [← h4] at hpl hri hal
      have HI := HL.out.I
      have hdl : decide (k < rs.length) = true := decide_eq_true hlt
      obtain ⟨r, hr⟩ : ∃ r, rs[k]'hlt = r := ⟨_, rfl⟩
      rw [hr] at x0 x1 h3 h4 hrow hpl hri hal
      have HS := hid (BothI.start HI.ids h2 h3.symm HB.out)
      have HE : Hid (∀ W, BothK W1 p sz (layS sz ops) k r.id r.l W → BothI W1 p sz (layS sz ops) (k + 1) W) := hid (fun W hW => BothK.stop_ h2 h3.symm hpl hW)
      obtain ⟨id, hid0⟩ : ∃ id, r.id = id := ⟨_, rfl⟩
      rw [hid0] at x0 h3 HS HE
      have HPT : Hid (∀ (j : Nat) (hj : j < r.l.length) W, (∃ e, W = over W1 e) → BothK W1 p sz (layS sz ops) k id (r.l.take j) W → Calls Tryd.prog 18 #[.pointer (some ⟨p, 0, none⟩), .int .u32 (id : Nat), .agg #[.int .i64 r.l[j].t, .int .u64 (r.l[j].v : Nat)]] W fun en w' => en = .returned (.int .i64 0) ∧ (∃ e, w' = over W1 e) ∧ BothK W1 p sz (layS sz ops) k id (r.l.take (j + 1)) w') := hid (fun j hj W hW hK => by
        have hcl : (putL sz (r.l.take j)).cl.length ≤ 60 := by
          have h5 := putL_ne sz (r.l.take j)
          have h6 := cl_le2 h5
          rw [putL_all] at h6
          simp at h6
          omega
        have := both_put (x := r.l[j]) HI.ids (by have := HL.out.len; omega) h2 h3.symm (by simp; omega) hcl (fun l' y he => by
          have hjl : l'.length + 1 = j := by have := congrArg List.length he; simp at this; omega
          have hy : r.l[l'.length]? = some y := by
            have := congrArg (fun l => l[l'.length]?) he
            simp at this
            rw [List.getElem?_take_of_lt (by omega)] at this
            exact this
          obtain ⟨hy1, hy2⟩ := List.getElem?_eq_some_iff.1 hy
          rw [← hy2]
          exact (List.pairwise_iff_getElem.1 hri) _ _ hy1 hj (by omega)) hW hK
        rw [List.take_succ_eq_append_getElem hj]
        exact this)
      obtain ⟨l, hll⟩ : ∃ l, r.l = l := ⟨_, rfl⟩
      rw [hll] at x1 HPT HE hal
      have HRO : Hid (SlM W1 r.a r.c l) := hid (by rw [← hll]; exact hrow)
      clear hpl hri h4 hrow hr hid0 h3 hll HI
      go_wp2
      go_loopw [11] (fun j wr => ∃ m : Nat, m ≤ l.length ∧ j = .int .i64 (m : Nat) ∧ BothK W1 p sz (layS sz ops) k id (l.take m) wr ∧ Ov W1 wr) (fun j _ => l.length - (intOf j).toNat)
      case atStart => exact ⟨0, Nat.zero_le _, rfl, HS.out, (by (try unfold Ov); exact ovA)⟩
      case round =>
        obtain ⟨m, hm, rfl, hK, hov⟩ := hrel
        have O3 : Hid (∃ e, wr = over W1 e) := hid hov
        obtain ⟨e3, rfl⟩ := hov
        have HK := hid hK
        clear hK
        by_cases hml : m < l.length
        · obtain ⟨cb, co, hca, hcb, q0, q1⟩ := SlM.at_ HRO.out hml
          rw [hca] at x1
          have hdm : decide (m < l.length) = true := decide_eq_true hml
          have HC := hid (HPT.out m hml)
          obtain ⟨y, hy⟩ : ∃ y, l[m]'hml = y := ⟨_, rfl⟩
          rw [hy] at HC q0 q1
          clear hca hy
          go_wp2
          refine M2.wp_region_mix [14] 14 (by kernel_rfl) (by kernel_rfl) (by decide) ?_
          simp only [List.take_succ_cons, List.take_zero, List.drop_succ_cons, List.drop_zero]
          with_reducible refine M2.mixL_quiet 14 (by kernel_rfl) ?_
          simp only [List.take_succ_cons, List.take_zero, List.drop_succ_cons, List.drop_zero]
          repeat (go_big_quiet_step (fail))
          with_reducible refine wpQuiet_nil ?_
          with_reducible refine M2.mixL_nil ?_
          with_reducible refine M2.mixL_eff (by decide) ?_
          go_wp2_with ((go_at_call 18; (with_reducible refine (HC.out _ (by (try unfold Ov); exact ovA) (BothK.ov HK.out (by (try unfold Ov); exact ovA))).mono ?_); rintro _ W5 ⟨rfl, ho5, hk5⟩; have O5 := hid ho5; have K5 := hid hk5; clear ho5 hk5))
          refine M2.MixQ.mk trivial ?_
          with_reducible refine M2.mixL_nil ?_
          go_wp2
          go_roundw
          case rel => exact ⟨m + 1, by omega, by go_num, K5.out, O5.out⟩
          case measure => (simp [intOf]; try omega)
        · obtain rfl : m = l.length := by omega
          have HK2 : Hid (BothI W1 p sz (layS sz ops) (k + 1) (over W1 e3)) := hid (HE.out _ (by have := HK.out; rwa [List.take_length] at this))
          go_wp2
          go_roundw
          case rel => exact ⟨k + 1, by omega, by go_num, HK2.out, (by (try unfold Ov); exact ovA)⟩
          case measure => (simp [intOf]; try omega)
    · obtain rfl : k = rs.length := by omega
      go_wp2
      go_ret3
      obtain ⟨v, rr, R, hb1, hb2⟩ := HB.out
      have ho4 : ∃ e, over W1 e0 = over W1 e := ⟨_, rfl⟩
      have hle : w.heap.size ≤ W1.heap.size := by obtain ⟨z, hz⟩ := O1.out; rw [hz]; simp
      refine ⟨b, mb, L, p, v, rr, R, al, cl, rs, rfl, (by (try unfold Ov); exact ovB O1.out), HL.out.ov ho4, Sl.over HSL.out e0, fun r hr => Sl.over (HRW.out r hr) e0, ?_, fun id => RB.all HL.out.I.ids HL.out.len hb2 id⟩
      exact ⟨hb1.blk, Own.mono hb1.row hle, hb1.ne, by have := hb1.lo; omega, hb1.ser, hb1.is_, hb1.sort⟩
end Go.Proofs.YtneeikjiabpjhaaDoor
