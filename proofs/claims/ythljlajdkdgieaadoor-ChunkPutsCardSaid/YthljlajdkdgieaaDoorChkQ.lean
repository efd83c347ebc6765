/- Samples one behind the other: plain. -/
import Derived.Test.YthljlajdkdgieaaDoorChkP
namespace Go.Proofs.YthljlajdkdgieaaDoor
set_option linter.unusedVariables false
set_option linter.unusedSimpArgs false

/-- A sample. -/
structure Sm where
  t : Int
  v : Nat
  deriving Inhabited, DecidableEq
def Sm.wf (s : Sm) : Prop := i64ok s.t ∧ s.v < 18446744073709551616

/-- The bits of samples. -/
def bitsC (e : En) : List Sm → List Bool
  | [] => []
  | s :: r => (laid e s.t s.v).1 ++ bitsC (laid e s.t s.v).2 r
/-- What is known behind them. -/
def knowC (e : En) : List Sm → En
  | [] => e
  | s :: r => knowC (laid e s.t s.v).2 r
/-- Each comes behind the one ahead. -/
def goodC (e : En) : List Sm → Prop
  | [] => True
  | s :: r => comes e s.t ∧ goodC (laid e s.t s.v).2 r
instance goodC_dec : ∀ (e : En) (xs : List Sm), Decidable (goodC e xs)
  | _, [] => .isTrue trivial
  | e, s :: r => @instDecidableAnd _ _ _ (goodC_dec _ r)

theorem knowC_app (e : En) (xs ys : List Sm) : knowC e (xs ++ ys) = knowC (knowC e xs) ys := by
  induction xs generalizing e with
  | nil => rfl
  | cons x l ih => exact ih _
theorem bitsC_app (e : En) (xs ys : List Sm) : bitsC e (xs ++ ys) = bitsC e xs ++ bitsC (knowC e xs) ys := by
  induction xs generalizing e with
  | nil => rfl
  | cons x l ih => simp only [List.cons_append, bitsC, ih, knowC, List.append_assoc]
theorem goodC_app (e : En) (xs ys : List Sm) : goodC e (xs ++ ys) ↔ goodC e xs ∧ goodC (knowC e xs) ys := by
  induction xs generalizing e with
  | nil => simp [goodC, knowC]
  | cons x l ih => simp only [List.cons_append, goodC, ih, knowC, and_assoc]
theorem knowC_snoc (e : En) (xs : List Sm) (s : Sm) : knowC e (xs ++ [s]) = (laid (knowC e xs) s.t s.v).2 := knowC_app e xs [s]
theorem bitsC_snoc (e : En) (xs : List Sm) (s : Sm) : bitsC e (xs ++ [s]) = bitsC e xs ++ (laid (knowC e xs) s.t s.v).1 := by
  rw [bitsC_app]; simp [bitsC]
theorem goodC_snoc (e : En) (xs : List Sm) (s : Sm) : goodC e (xs ++ [s]) ↔ goodC e xs ∧ comes (knowC e xs) s.t := by
  rw [goodC_app]; simp [goodC]
theorem takeC_get {α : Type} {l : List α} {k : Nat} (h : k < l.length) : l.take (k + 1) = l.take k ++ [l[k]] := by
  rw [List.take_add_one, List.getElem?_eq_getElem h]; rfl

/-- What is known is sound. -/
theorem knowC_ok {e : En} (hs : soundE e = true) (hw : e.wf) : ∀ (xs : List Sm), (∀ s ∈ xs, s.wf) → e.n + xs.length < 9223372036854775807 → soundE (knowC e xs) = true ∧ (knowC e xs).wf ∧ (knowC e xs).n = e.n + xs.length
  | [], _, _ => ⟨hs, hw, by simp [knowC]⟩
  | s :: r, h, hn => by
    have h0 := h s (by simp)
    have h1 := laid_sound (v := s.v) hs hw h0.1 h0.2 (by simp at hn; omega)
    have h2 := knowC_ok h1.1 h1.2.1 r (fun x hx => h x (by simp [hx])) (by rw [h1.2.2.1]; simp at hn; omega)
    refine ⟨h2.1, h2.2.1, ?_⟩
    simp only [knowC, h2.2.2, h1.2.2.1, List.length_cons]; omega
theorem zeroE_ok : soundE En.zero = true ∧ En.zero.wf := ⟨rfl, by simp [En.wf, En.zero, i64ok, Vl.wf, Vl.zero]⟩
theorem knowZ {xs : List Sm} (h : ∀ s ∈ xs, s.wf) (hl : xs.length ≤ 1000000) : soundE (knowC En.zero xs) = true ∧ (knowC En.zero xs).wf ∧ (knowC En.zero xs).n = xs.length := by
  have := knowC_ok zeroE_ok.1 zeroE_ok.2 xs h (by simp [En.zero]; omega)
  simpa [En.zero] using this
/-- The last time is known. -/
theorem knowC_last (e : En) (xs : List Sm) (s : Sm) : (knowC e (xs ++ [s])).last = s.t := by rw [knowC_snoc]; rfl
theorem bitsC_len {e : En} (hs : soundE e = true) (hw : e.wf) : ∀ (xs : List Sm), (∀ s ∈ xs, s.wf) → e.n + xs.length < 9223372036854775807 → xs.length ≤ (bitsC e xs).length ∧ (bitsC e xs).length ≤ 146 * xs.length
  | [], _, _ => by simp [bitsC]
  | s :: r, h, hn => by
    have h0 := h s (by simp)
    have h1 := laid_sound (v := s.v) hs hw h0.1 h0.2 (by simp at hn; omega)
    have h2 := laid_len (t := s.t) hs hw h0.2
    have h3 := bitsC_len h1.1 h1.2.1 r (fun x hx => h x (by simp [hx])) (by rw [h1.2.2.1]; simp at hn; omega)
    simp only [bitsC, List.length_append, List.length_cons]; omega
theorem bitsZ_len {xs : List Sm} (h : ∀ s ∈ xs, s.wf) (hl : xs.length ≤ 1000000) : xs.length ≤ (bitsC En.zero xs).length ∧ (bitsC En.zero xs).length ≤ 146 * xs.length :=
  bitsC_len zeroE_ok.1 zeroE_ok.2 xs h (by simp [En.zero]; omega)

/-- Of, the document's and the program's: bits, what is known, an error. -/
def ofC (xs : List Sm) : List Bool × En × Nat := if goodC En.zero xs then (bitsC En.zero xs, knowC En.zero xs, 0) else ([], En.zero, 60)
theorem ofC_good {xs : List Sm} (h : goodC En.zero xs) : ofC xs = (bitsC En.zero xs, knowC En.zero xs, 0) := if_pos h
theorem ofC_bad {xs : List Sm} {k : Nat} (hk : k < xs.length) (h : ¬ comes (knowC En.zero (xs.take k)) xs[k].t) : ofC xs = ([], En.zero, 60) := by
  refine if_neg fun hg => h ?_
  have h1 := hg
  rw [← List.take_append_drop (k + 1) xs, goodC_app, takeC_get hk, goodC_snoc] at h1
  exact h1.1.2

/-- A front of bits that is laid is a front of the samples. -/
theorem front_of {e : En} (hs : soundE e = true) (hw : e.wf) : ∀ (xs ys : List Sm) (r : List Bool), (∀ s ∈ xs, s.wf) → (∀ s ∈ ys, s.wf) → e.n + xs.length < 9223372036854775807 → goodC e xs → goodC e ys → bitsC e ys = bitsC e xs ++ r → ∃ zs, ys = xs ++ zs ∧ bitsC (knowC e xs) zs = r
  | [], ys, r, _, _, _, _, _, h => ⟨ys, rfl, by simpa [bitsC, knowC] using h⟩
  | s :: xs, [], r, hx, _, _, _, _, h => by
    have h2 := laid_len (t := s.t) hs hw (hx s (by simp)).2
    have := congrArg List.length h
    simp only [bitsC, List.length_append, List.length_nil] at this; omega
  | s :: xs, u :: ys, r, hx, hy, hn, gx, gy, h => by
    have hx0 := hx s (by simp)
    have hy0 := hy u (by simp)
    simp only [bitsC, List.append_assoc] at h
    have a1 := getC_laid [] (bitsC (laid e u.t u.v).2 ys) hs hw hy0.1 hy0.2 gy.1
    have a2 := getC_laid [] (bitsC (laid e s.t s.v).2 xs ++ r) hs hw hx0.1 hx0.2 gx.1
    rw [List.nil_append, h] at a1
    rw [List.nil_append, a1] at a2
    simp only [Prod.mk.injEq] at a2
    obtain ⟨⟨h3, h4⟩, h5, -, -⟩ := a2
    have : u = s := by cases u; cases s; simp_all
    subst this
    have h6 := List.append_cancel_left h
    have h1 := laid_sound (v := u.v) hs hw hx0.1 hx0.2 (by simp at hn; omega)
    obtain ⟨zs, rfl, hz⟩ := front_of h1.1 h1.2.1 xs ys r (fun x hx' => hx x (by simp [hx'])) (fun x hx' => hy x (by simp [hx'])) (by rw [h1.2.2.1]; simp at hn; omega) gx.2 gy.2 h6
    exact ⟨zs, rfl, hz⟩
theorem bitsZ_inj {xs ys : List Sm} (hx : ∀ s ∈ xs, s.wf) (hy : ∀ s ∈ ys, s.wf) (hl : xs.length ≤ 1000000) (gx : goodC En.zero xs) (gy : goodC En.zero ys) (h : bitsC En.zero xs = bitsC En.zero ys) : xs = ys := by
  obtain ⟨zs, rfl, hz⟩ := front_of zeroE_ok.1 zeroE_ok.2 xs ys [] hx hy (by simp [En.zero]; omega) gx gy (by simp [h])
  match zs, hz with
  | [], _ => simp
  | z :: zs, hz =>
    have hk := knowZ hx hl
    have := laid_len (t := z.t) hk.1 hk.2.1 (hy z (by simp)).2
    have := congrArg List.length hz
    simp only [bitsC, List.length_append, List.length_nil] at this; omega
/-- A sample is read where it was laid. -/
theorem getC_at {xs : List Sm} (hx : ∀ s ∈ xs, s.wf) (hl : xs.length ≤ 1000000) (g : goodC En.zero xs) {k : Nat} (hk : k < xs.length) :
    getC (bitsC En.zero xs) (bitsC En.zero (xs.take k)).length (knowC En.zero (xs.take k)) = ((xs[k].t, xs[k].v), (((bitsC En.zero (xs.take (k + 1))).length : Nat) : Int), knowC En.zero (xs.take (k + 1)), 0) := by
  have h1 := knowZ (xs := xs.take k) (fun s hs => hx s (List.mem_of_mem_take hs)) (by rw [List.length_take]; omega)
  have h2 := g
  rw [← List.take_append_drop (k + 1) xs, goodC_app, takeC_get hk, goodC_snoc] at h2
  have h3 := hx xs[k] (List.getElem_mem hk)
  have h4 := getC_laid (bitsC En.zero (xs.take k)) (bitsC (knowC En.zero (xs.take (k + 1))) (xs.drop (k + 1))) h1.1 h1.2.1 h3.1 h3.2 h2.1.2
  have e1 : bitsC En.zero xs = bitsC En.zero (xs.take k) ++ ((laid (knowC En.zero (xs.take k)) xs[k].t xs[k].v).1 ++ bitsC (knowC En.zero (xs.take (k + 1))) (xs.drop (k + 1))) := by
    conv => lhs; rw [← List.take_append_drop (k + 1) xs]
    rw [bitsC_app, takeC_get hk, bitsC_snoc, List.append_assoc]
  rw [e1, h4, takeC_get hk, bitsC_snoc, knowC_snoc, List.length_append]
/-- What reading has come to: samples whose bits stand ahead of the place. -/
structure ReadC (l : List Bool) (xs : List Sm) : Prop where
  wf : ∀ s ∈ xs, s.wf
  len : xs.length ≤ l.length
  good : goodC En.zero xs
  bits : ∃ r, l = bitsC En.zero xs ++ r
theorem ReadC.zero (l : List Bool) : ReadC l [] := ⟨by simp, by simp, trivial, l, rfl⟩
/-- One more is read. -/
theorem ReadC.next {l : List Bool} {xs : List Sm} (h : ReadC l xs) (hl : l.length ≤ 900000) {t : Int} {v : Nat} {n : Int} {d : En} (hg : getC l (bitsC En.zero xs).length (knowC En.zero xs) = ((t, v), n, d, 0)) (hv : v < 18446744073709551616) : ReadC l (xs ++ [⟨t, v⟩]) ∧ n = ((bitsC En.zero (xs ++ [⟨t, v⟩])).length : Nat) ∧ d = knowC En.zero (xs ++ [⟨t, v⟩]) := by
  have h1 := knowZ h.wf (by have := h.len; omega)
  obtain ⟨a1, a2, a3, a4, a5, a6, a7⟩ := getC_ok hg h1.2.1
  obtain ⟨r, hr⟩ := h.bits
  have hwf : ∀ s ∈ xs ++ [(⟨t, v⟩ : Sm)], s.wf := by
    intro s hs
    rcases List.mem_append.1 hs with h' | h'
    · exact h.wf s h'
    · simp at h'; subst h'; exact ⟨a4, hv⟩
  have e1 : l.drop (bitsC En.zero xs).length = r := by rw [hr]; simp
  rw [Int.toNat_natCast, e1] at a7
  have e2 : (laid (knowC En.zero xs) t v).1.length = n.toNat - (bitsC En.zero xs).length := by
    rw [a7, List.length_take, ← e1, List.length_drop]; omega
  have e3 : (bitsC En.zero (xs ++ [(⟨t, v⟩ : Sm)])).length = n.toNat := by
    rw [bitsC_snoc, List.length_append, e2]; omega
  have e4 : l = bitsC En.zero (xs ++ [(⟨t, v⟩ : Sm)]) ++ r.drop (n.toNat - (bitsC En.zero xs).length) := by
    rw [bitsC_snoc, a7, List.append_assoc, List.take_append_drop]; exact hr
  refine ⟨⟨hwf, ?_, ?_, _, e4⟩, by rw [e3]; omega, by rw [knowC_snoc]; exact a6.symm⟩
  · have h2 := bitsZ_len hwf (by rw [List.length_append]; have := h.len; simp; omega)
    rw [e3] at h2
    omega
  · rw [goodC_snoc]; exact ⟨h.good, a5⟩
/-- No more can be read: the bits are no samples'. -/
theorem ReadC.dead {l : List Bool} {xs : List Sm} (h : ReadC l xs) (hl : l.length ≤ 1000000) (hat : (bitsC En.zero xs).length < l.length) (hg : (getC l (bitsC En.zero xs).length (knowC En.zero xs)).2.2.2 ≠ 0) (ys : List Sm) (hy : ∀ s ∈ ys, s.wf) (gy : goodC En.zero ys) : bitsC En.zero ys ≠ l := by
  intro hb
  subst hb
  obtain ⟨r, hr⟩ := h.bits
  have hlen := h.len
  obtain ⟨zs, hz, hz2⟩ := front_of zeroE_ok.1 zeroE_ok.2 xs ys r h.wf hy (by simp [En.zero]; omega) h.good gy hr
  match zs, hz, hz2 with
  | [], hz, hz2 => rw [hz] at hat; simp at hat
  | z :: zs, hz, hz2 =>
    subst hz
    have h1 := knowZ h.wf (by omega)
    have h2 := (goodC_app _ _ _).1 gy
    have h3 := hy z (by simp)
    have h4 := getC_laid (bitsC En.zero xs) (bitsC (laid (knowC En.zero xs) z.t z.v).2 zs) h1.1 h1.2.1 h3.1 h3.2 h2.2.1
    rw [bitsC_app] at hg
    simp only [bitsC] at hg
    rw [h4] at hg
    exact hg rfl
theorem getC_err (l : List Bool) (at_ : Int) (e : En) : getC l at_ e = ((0, 0), 0, En.zero, 61) ∨ (getC l at_ e).2.2.2 = 0 := by
  unfold getC
  split
  · exact .inl rfl
  · split
    · exact .inl rfl
    · exact .inr rfl
end Go.Proofs.YthljlajdkdgieaaDoor
