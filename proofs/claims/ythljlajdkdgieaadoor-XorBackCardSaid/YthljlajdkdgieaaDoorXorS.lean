/- Values one behind the other. Plain. -/
import Derived.Test.YthljlajdkdgieaaDoorXorQ
namespace Go.Proofs.YthljlajdkdgieaaDoor
set_option linter.unusedVariables false
set_option linter.unusedSimpArgs false

/-- What is known behind each of the values, from s on. -/
def knows (s : Vl) : List Nat → List Vl
  | [] => []
  | v :: vs => (written s v).2 :: knows (written s v).2 vs
/-- The bits of the values. -/
def wrote (s : Vl) : List Nat → List Bool
  | [] => []
  | v :: vs => (written s v).1 ++ wrote (written s v).2 vs
/-- What is known at the end. -/
def knowAt (s : Vl) : List Nat → Vl
  | [] => s
  | v :: vs => knowAt (written s v).2 vs
theorem knowAt_snoc (s : Vl) (vs : List Nat) (v : Nat) : knowAt s (vs ++ [v]) = (written (knowAt s vs) v).2 := by
  induction vs generalizing s with
  | nil => rfl
  | cons x l ih => exact ih _
theorem wrote_snoc (s : Vl) (vs : List Nat) (v : Nat) : wrote s (vs ++ [v]) = wrote s vs ++ (written (knowAt s vs) v).1 := by
  induction vs generalizing s with
  | nil => simp [wrote, knowAt]
  | cons x l ih => simp only [List.cons_append, wrote, ih, knowAt, List.append_assoc]
theorem knows_snoc (s : Vl) (vs : List Nat) (v : Nat) : knows s (vs ++ [v]) = knows s vs ++ [(written (knowAt s vs) v).2] := by
  induction vs generalizing s with
  | nil => rfl
  | cons x l ih => simp only [List.cons_append, knows, ih, knowAt]
theorem knows_length (s : Vl) (vs : List Nat) : (knows s vs).length = vs.length := by
  induction vs generalizing s with
  | nil => rfl
  | cons x l ih => simp only [knows, List.length_cons, ih]
theorem take_get {α : Type} {l : List α} {k : Nat} (h : k < l.length) : l.take (k + 1) = l.take k ++ [l[k]] := by
  rw [List.take_add_one, List.getElem?_eq_getElem h]; rfl
theorem knowAt_ok {s : Vl} (hs : soundV s = true) (hw : s.wf) : ∀ (vs : List Nat), (∀ v ∈ vs, v < 18446744073709551616) → soundV (knowAt s vs) = true ∧ (knowAt s vs).wf
  | [], _ => ⟨hs, hw⟩
  | v :: vs, h => by
    have := written_sound hs hw (h v (by simp))
    exact knowAt_ok this.1 this.2.2.2 vs fun x hx => h x (by simp [hx])
theorem wrote_len {s : Vl} (hs : soundV s = true) (hw : s.wf) : ∀ (vs : List Nat), (∀ v ∈ vs, v < 18446744073709551616) → (wrote s vs).length ≤ 77 * vs.length
  | [], _ => by simp [wrote]
  | v :: vs, h => by
    have h1 := written_sound hs hw (h v (by simp))
    have h2 := (written_len hs hw (h v (by simp))).1
    have h3 := wrote_len h1.1 h1.2.2.2 vs fun x hx => h x (by simp [hx])
    simp only [wrote, List.length_append, List.length_cons]; omega
/-- The bits of a front stand in front. -/
theorem wrote_front (s : Vl) (vs : List Nat) (k : Nat) (hk : k < vs.length) : ∃ r, wrote s vs = wrote s (vs.take k) ++ ((written (knowAt s (vs.take k)) vs[k]).1 ++ r) := by
  refine ⟨wrote (knowAt s (vs.take (k + 1))) (vs.drop (k + 1)), ?_⟩
  have e : ∀ (t : Vl) (xs ys : List Nat), wrote t (xs ++ ys) = wrote t xs ++ wrote (knowAt t xs) ys := by
    intro t xs
    induction xs generalizing t with
    | nil => intro ys; rfl
    | cons x l ih => intro ys; simp only [List.cons_append, wrote, ih, knowAt, List.append_assoc]
  conv => lhs; rw [← List.take_append_drop (k + 1) vs]
  rw [e, take_get hk, wrote_snoc, List.append_assoc]
theorem knows_get (s : Vl) (vs : List Nat) (k : Nat) (hk : k < vs.length) : (knows s vs)[k]? = some (knowAt s (vs.take (k + 1))) := by
  induction vs generalizing s k with
  | nil => simp at hk
  | cons x l ih =>
    cases k with
    | zero => simp [knows, knowAt]
    | succ k => simp only [knows, List.getElem?_cons_succ, List.take_succ_cons, knowAt]; exact ih _ _ (by simpa using hk)
end Go.Proofs.YthljlajdkdgieaaDoor
