import Derived.Test.YtnihngljmmbenaaGreatDoorNI
namespace Go.Proofs.YtnihngljmmbenaaGreatDoor
set_option linter.unusedVariables false
set_option linter.unusedSimpArgs false
namespace M2

def plainOp : Op → Bool
  | .move _ | .assign _ | .pick _ _ _ | .load _ _ | .binOp _ _ _ _ _ | .unOp _ _ _ | .convert _ _ _ | .fieldAddr _ _ _ | .field _ _ _ | .indexAddr _ _ _ | .index _ _ _ | .extract _ _ | .build _ _ | .slice _ _ _ _ _ | .makeInterface _ _ | .nilCheck _ | .lookup _ _ _ _ => true
  | .call c => match c.callee with
    | .builtin .len | .builtin .cap | .builtin .min | .builtin .max => true
    | _ => false
  | _ => false

section
variable {P : Program} {ops : Array Oper} {md : Region.Mode} {C R : World → Prop} {D : Nat → World → Prop} {z : Nat} {E : List Nat} {Q : Act → World → Prop}

theorem td {α : Type} : (∀ (a : α) (l : List α) (n : Nat), (a :: l).take (n + 1) = a :: l.take n) ∧ (∀ l : List α, l.take 0 = []) ∧ (∀ (a : α) (l : List α) (n : Nat), (a :: l).drop (n + 1) = l.drop n) ∧ (∀ l : List α, l.drop 0 = l) := ⟨fun _ _ _ => rfl, fun _ => rfl, fun _ _ _ => rfl, fun _ => rfl⟩
theorem noEnter_v {s : Sem Value} {w w' : World} {f : FuncId} {args : Array Value} : (do pure (.value (← s)) : Sem Next).run P w ≠ .ok (.enter f args) w' := by
  simp only [Sem.run_bind, Sem.run_pure]
  cases s.run P w <;> simp [Result.andThen]

theorem bind_noEnter {α : Type} {s : Sem α} {k : α → Sem Next} {f : FuncId} {args : Array Value} (h : ∀ a w1 w', (k a).run P w1 ≠ .ok (.enter f args) w') {w w' : World} : (s >>= k).run P w ≠ .ok (.enter f args) w' := by
  rw [Sem.run_bind]
  cases hs : s.run P w with
  | ok a w1 => simp only [Result.andThen]; exact h _ _ _
  | halt x w1 => simp [Result.andThen]
theorem nilCheck_noEnter {ρ : Operand → Value} {o : Oper} {x : Operand} (ho : o.op = .nilCheck x) {w w' : World} {f : FuncId} {args : Array Value} : (execOp ρ o).run P w ≠ .ok (.enter f args) w' := by
  unfold execOp
  rw [ho]
  simp only
  split
  · simp only [runtimePanic]; repeat (refine bind_noEnter fun _ _ _ => ?_); simp
  · simp only [runtimePanic]; repeat (refine bind_noEnter fun _ _ _ => ?_); simp
  · simp only [runtimePanic]; repeat (refine bind_noEnter fun _ _ _ => ?_); simp
  · split
    · simp only [runtimePanic]; repeat (refine bind_noEnter fun _ _ _ => ?_); simp
    · refine bind_noEnter fun _ _ _ => bind_noEnter fun _ _ _ => ?_
      split
      · first | (simp; done) | (refine bind_noEnter fun _ _ _ => ?_; simp)
      · first | (simp; done) | (refine bind_noEnter fun _ _ _ => ?_; simp)
    · simp
  · simp

theorem plain_noEnter {ρ : Operand → Value} {o : Oper} (h : plainOp o.op = true) {w w' : World} {f : FuncId} {args : Array Value} : (execOp ρ o).run P w ≠ .ok (.enter f args) w' := by
  obtain ⟨dst, op, ty, pos, after, guard⟩ := o
  cases op <;> simp only [plainOp, Bool.false_eq_true] at h
  case call c =>
    obtain ⟨callee, xs, ats⟩ := c
    cases callee <;> simp only [Bool.false_eq_true] at h
    rename_i b
    cases b <;> simp only [Bool.false_eq_true] at h
    all_goals
      rw [BigFrame.execOp_builtin]
      first | rw [BigFrame.builtin_len] | rw [BigFrame.builtin_cap] | rw [BigFrame.builtin_min] | rw [BigFrame.builtin_max]
      exact noEnter_v
  case nilCheck => exact nilCheck_noEnter rfl
  all_goals
    unfold execOp
    first | exact noEnter_v | (simp only [Sem.run_bind, Sem.run_pure, Result.andThen]; intro h; split at h <;> simp at h; done) | (simp [Sem.run_pure]; done)

def NoQ : Exit → Act → World → Prop := fun _ _ _ => False

def Yields (P : Program) (C : World → Prop) (o : Oper) (a : Act) (v : Value) : Prop := plainOp o.op = true ∧ ∀ w, C w → o.quietAt P a C w v

theorem Yields.run {o : Oper} {a : Act} {v : Value} (h : Yields P C o a v) {w : World} (hw : C w) : (execOp a.eval o).run P w = .ok (.value v) w ∨ ((execOp a.eval o).run P w = .ok .skip w ∧ v = undef) := by
  have h1 := h.2 w hw
  have h2 := fun f args w' => plain_noEnter (P := P) (ρ := a.eval) h.1 (w := w) (w' := w') (f := f) (args := args)
  unfold Oper.quietAt at h1
  generalize (execOp a.eval o).run P w = r at *
  cases r with
  | ok n w' =>
    cases n <;> simp only [Oper.quietUpon] at h1
    case value u => obtain ⟨rfl, rfl⟩ := h1; exact .inl rfl
    case skip => obtain ⟨rfl, rfl⟩ := h1; exact .inr ⟨rfl, rfl⟩
    case enter f args => exact absurd rfl (h2 f args w')
  | halt x w' => simp only [Oper.quietUpon] at h1

theorem Yields.unique {o : Oper} {a : Act} {v v' : Value} (h : Yields P C o a v) (h' : Yields P C o a v') {w : World} (hw : C w) : v = v' := by
  rcases h.run hw with h1 | ⟨h1, h2⟩ <;> rcases h'.run hw with h3 | ⟨h3, h4⟩ <;> rw [h1] at h3 <;> simp at h3
  · exact h3
  · rw [h2, h4]

theorem Yields.wp {o : Oper} {a : Act} {v : Value} (h : Yields P C o a v) {w : World} (hw : C w) {K : Act → World → Prop} {Q' : Exit → Act → World → Prop} (hk : K (a.put o.dst v) w) : o.wp P a w K Q' := by
  unfold Oper.wp
  rcases h.run hw with h1 | ⟨h1, rfl⟩ <;> rw [h1] <;> exact hk

theorem Yields.of_same {o : Oper} {a a' : Act} {v : Value} (h : Yields P C o a v) (he : execOp a'.eval o = execOp a.eval o) : Yields P C o a' v :=
  ⟨h.1, fun w hw => by have := h.2 w hw; unfold Oper.quietAt at *; rw [he]; exact this⟩

def mixOp (P : Program) (ops : Array Oper) (D : Nat → World → Prop) (E : List Nat) (R : World → Prop) (i : Nat) (K : Act → World → Prop) (a : Act) (w : World) : Prop :=
  match ops[i]? with
  | none => K a w
  | some o =>
    if Region.wanted o (yielded ops a.tmps) then
      (if E.contains i then o.wp P a w (fun a' w' => R w' ∧ K a' w') NoQ else ∃ v, Yields P (D i) o a v ∧ K (a.put o.dst v) w)
    else K (a.put o.dst undef) w

theorem wp_noQ_mono {o : Oper} {a : Act} {w : World} {K K' : Act → World → Prop} {Q' : Exit → Act → World → Prop} (h : ∀ a w, K a w → K' a w) (hh : o.wp P a w K NoQ) : o.wp P a w K' Q' := by
  unfold Oper.wp at *
  generalize (execOp a.eval o).run P w = r at *
  cases r with
  | ok n w' =>
    cases n <;> simp only [Oper.upon] at hh ⊢
    case value u => exact h _ _ hh
    case skip => exact h _ _ hh
    case defer d => exact h _ _ hh
    case enter f args =>
      refine hh.mono fun e w'' he => ?_
      cases e with
      | returned v => exact h _ _ he
      | panicked c => exact he.elim
      | outgrown => obtain ⟨_, _, hq⟩ := he; exact hq.elim
    case row r args => exact hh.mono fun v w'' hv => h _ _ hv
  | halt x w' => cases x <;> simp only [Oper.upon] at hh ⊢; exact hh.elim

theorem mixOp_mono {i : Nat} {a : Act} {w : World} {K K' : Act → World → Prop} {R' : World → Prop} (hR : ∀ w, R w → R' w) (h : ∀ a w, K a w → K' a w) (hh : mixOp P ops D E R i K a w) : mixOp P ops D E R' i K' a w := by
  unfold mixOp at *
  split
  · rename_i ho; simp only [ho] at hh; exact h _ _ hh
  · rename_i o ho
    simp only [ho] at hh
    split
    · rename_i hw
      rw [if_pos hw] at hh
      split
      · rename_i he; rw [if_pos he] at hh; exact wp_noQ_mono (fun a w hk => ⟨hR _ hk.1, h _ _ hk.2⟩) hh
      · rename_i he; rw [if_neg he] at hh; obtain ⟨v, h1, h2⟩ := hh; exact ⟨v, h1, h _ _ h2⟩
    · rename_i hw; rw [if_neg hw] at hh; exact h _ _ hh

def Cl (C : World → Prop) (E : List Nat) (z : Nat) (listed : Array Bool) (w : World) : Prop := (∀ k ∈ E, z ≤ k → listed.getD k false = false) → C w
def mvB (ops : Array Oper) (i : Nat) : Bool := match ops[i]? with
  | some o => (match o.op with | .move _ => true | _ => false)
  | none => false
def Dz (ops : Array Oper) (C : World → Prop) (z : Nat) (i : Nat) (w : World) : Prop := mvB ops i = false → i < z → C w

theorem getD_set_eqF {l : Array Bool} {i k : Nat} (h : (l.setIfInBounds i true).getD k false = false) : l.getD k false = false := by
  by_cases hik : i = k
  · subst hik
    cases hl : l.getD i false with
    | false => rfl
    | true => rw [getD_set_true hl] at h; cases h
  · rw [getD_set_ne false hik] at h; exact h
theorem Cl.mono {listed : Array Bool} {w : World} (i : Nat) (h : Cl C E z listed w) : Cl C E z (listed.setIfInBounds i true) w := fun hk => h fun k hE hz => getD_set_eqF (hk k hE hz)
theorem Cl.quiet {listed : Array Bool} {w : World} {i : Nat} (hE : E.contains i = false) (h : Cl C E z (listed.setIfInBounds i true) w) : Cl C E z listed w := fun hk => h fun k hkE hz => by
  have : i ≠ k := fun h => by subst h; rw [List.contains_iff_mem.2 hkE] at hE; cases hE
  rw [getD_set_ne false this]; exact hk k hkE hz

theorem wp_put {o : Oper} {a : Act} {w : World} {d : Option Tmp} {v : Value} (he : execOp (a.put d v).eval o = execOp a.eval o) (hd : ∀ x, d = some x → o.dst ≠ some x) {K : Act → World → Prop} (h : o.wp P (a.put d v) w K NoQ) :
    o.wp P a w (fun a' w' => K (a'.put d v) w') NoQ := by
  unfold Oper.wp at *
  rw [he] at h
  generalize (execOp a.eval o).run P w = r at *
  have hc : ∀ (a : Act) u, (a.put o.dst u).put d v = (a.put d v).put o.dst u := fun a u => (Act.put_comm a v u hd).symm
  cases r with
  | ok n w' =>
    cases n <;> simp only [Oper.upon] at h ⊢
    case value u => rw [hc]; exact h
    case skip => rw [hc]; exact h
    case defer x =>
      rw [hc]
      have : ({ a.put d v with defers := x :: (a.put d v).defers } : Act) = ({ a with defers := x :: a.defers } : Act).put d v := by cases d <;> rfl
      rw [this] at h
      exact h
    case enter f args =>
      refine h.mono fun e w'' he => ?_
      cases e with
      | returned u => show K _ _; rw [hc]; exact he
      | panicked c => exact he
      | outgrown => obtain ⟨_, _, hq⟩ := he; exact hq.elim
    case row r args => refine h.mono fun u w'' hv => ?_; rw [hc]; exact hv
  | halt x w' => cases x <;> simp only [Oper.upon] at h ⊢; exact h.elim
theorem wp_put' {o : Oper} {a : Act} {w : World} {d : Option Tmp} {v : Value} (he : execOp (a.put d v).eval o = execOp a.eval o) (hd : ∀ x, d = some x → o.dst ≠ some x) {K : Act → World → Prop} (h : o.wp P a w (fun a' w' => K (a'.put d v) w') NoQ) :
    o.wp P (a.put d v) w K NoQ := by
  unfold Oper.wp at *
  rw [he]
  generalize (execOp a.eval o).run P w = r at *
  have hc : ∀ (a : Act) u, (a.put o.dst u).put d v = (a.put d v).put o.dst u := fun a u => (Act.put_comm a v u hd).symm
  cases r with
  | ok n w' =>
    cases n <;> simp only [Oper.upon] at h ⊢
    case value u => rw [hc] at h; exact h
    case skip => rw [hc] at h; exact h
    case defer x =>
      rw [hc] at h
      have : ({ a.put d v with defers := x :: (a.put d v).defers } : Act) = ({ a with defers := x :: a.defers } : Act).put d v := by cases d <;> rfl
      rw [this]
      exact h
    case enter f args =>
      refine h.mono fun e w'' he => ?_
      cases e with
      | returned u => have he' : K _ _ := he; rw [hc] at he'; exact he'
      | panicked c => exact he
      | outgrown => obtain ⟨_, _, hq⟩ := he; exact hq.elim
    case row r args => refine h.mono fun u w'' hv => ?_; rw [hc] at hv; exact hv
  | halt x w' => cases x <;> simp only [Oper.upon] at h ⊢; exact h.elim

theorem mixOp_put {j : Nat} {oi oj : Oper} {v : Value} (hj : ops[j]? = some oj) (hap : oi.apart ops oj = true)
    (hsi : ∀ cs b, oi.op ≠ .select cs b) (hsj : ∀ cs b, oj.op ≠ .select cs b) {K : Act → World → Prop} {a : Act} {w : World}
    (h : mixOp P ops D E R j K (a.put oi.dst v) w) : mixOp P ops D E R j (fun a' w' => K (a'.put oi.dst v) w') a w := by
  obtain ⟨h1, h2, h3⟩ := Oper.apart_spec hap
  unfold mixOp at *
  simp only [hj] at *
  rw [wanted_put oj a oi.dst v h1] at h
  split
  · rename_i hw
    rw [if_pos hw] at h
    split
    · rename_i he
      rw [if_pos he] at h
      exact wp_put (execOp_put oj hsj a oi.dst v h1) (fun x hx => h2 x hx) h
    · rename_i he
      rw [if_neg he] at h
      obtain ⟨u, hu, hk⟩ := h
      exact ⟨u, hu.of_same (execOp_put oj hsj a oi.dst v h1).symm, by rw [← Act.put_comm a v u h2]; exact hk⟩
  · rename_i hw
    rw [if_neg hw] at h
    rw [← Act.put_comm a v undef h2]; exact h

theorem mixOp_keep {j : Nat} {oi oj : Oper} (hj : ops[j]? = some oj) (hap : oi.apart ops oj = true) (hsi : ∀ cs b, oi.op ≠ .select cs b) {K : Act → World → Prop} {a : Act} {w : World}
    (T : Act → Prop) (hT : ∀ a' : Act, execOp a'.eval oi = execOp a.eval oi → Region.wanted oi (yielded ops a'.tmps) = Region.wanted oi (yielded ops a.tmps) → T a')
    (h : mixOp P ops D E R j K a w) : mixOp P ops D E R j (fun a' w' => T a' ∧ K a' w') a w := by
  obtain ⟨h1, h2, h3⟩ := Oper.apart_spec hap
  have put : ∀ u, T (a.put oj.dst u) := fun u => hT _ (execOp_put oi hsi a oj.dst u h3) (wanted_put oi a oj.dst u h3)
  have putd : ∀ x u, T (({ a with defers := x } : Act).put oj.dst u) := fun x u => hT _ (by rw [execOp_put oi hsi _ oj.dst u h3]; rfl) (by rw [wanted_put oi _ oj.dst u h3])
  unfold mixOp at *
  simp only [hj] at *
  split
  · rename_i hw
    rw [if_pos hw] at h
    split
    · rename_i he
      rw [if_pos he] at h
      unfold Oper.wp at *
      generalize (execOp a.eval oj).run P w = r at *
      cases r with
      | ok n w' =>
        cases n <;> simp only [Oper.upon] at h ⊢
        case value u => exact ⟨h.1, put _, h.2⟩
        case skip => exact ⟨h.1, put _, h.2⟩
        case defer x => exact ⟨h.1, putd _ _, h.2⟩
        case enter f args =>
          refine h.mono fun e w'' he => ?_
          cases e with
          | returned u => exact ⟨he.1, put _, he.2⟩
          | panicked c => exact he
          | outgrown => obtain ⟨_, _, hq⟩ := he; exact hq.elim
        case row r args => exact h.mono fun u w'' hv => ⟨hv.1, put _, hv.2⟩
      | halt x w' => cases x <;> simp only [Oper.upon] at h ⊢; exact h.elim
    · rename_i he
      rw [if_neg he] at h
      obtain ⟨u, hu, hk⟩ := h
      exact ⟨u, hu, put _, hk⟩
  · rename_i hw
    rw [if_neg hw] at h
    exact ⟨put _, h⟩

def ClosedL (md : Region.Mode) (ops : Array Oper) (listed : Array Bool) : Prop := ∀ (j : Nat) (oj : Oper), ops[j]? = some oj → listed.getD j false = true → ∀ e ∈ oj.after, Region.binds md e = true → listed.getD e.on false = true

theorem ClosedL.set {listed : Array Bool} {i : Nat} (h : ClosedL md ops listed) (hi : i ∈ Region.ready md ops listed) : ClosedL md ops (listed.setIfInBounds i true) := by
  obtain ⟨_, oi, hoi, hall⟩ := mem_ready.1 hi
  intro j oj hj hl e he hb
  by_cases hij : i = j
  · subst hij
    have : oj = oi := Option.some.inj (hj.symm.trans hoi)
    subst this
    exact getD_set_true (hall e he hb)
  · rw [getD_set_ne false hij] at hl
    exact getD_set_true (h j oj hj hl e he hb)

def Region.dep (md : Region.Mode) (ops : Array Oper) : Nat → Nat → Nat → Bool
  | 0, _, _ => false
  | f + 1, p, j =>
    match ops[j]? with
    | some oj => oj.after.any fun e => Region.binds md e && (e.on == p || Region.dep md ops f p e.on)
    | none => false

theorem dep_unlisted {listed : Array Bool} {p : Nat} (hc : ClosedL md ops listed) (hp : listed.getD p false = false) : ∀ (f j : Nat), Region.dep md ops f p j = true → listed.getD j false = false ∧ j ∉ Region.ready md ops listed
  | 0, _, h => by simp [Region.dep] at h
  | f + 1, j, h => by
    unfold Region.dep at h
    split at h
    · rename_i oj hj
      obtain ⟨e, he, hb⟩ := Array.any_eq_true'.1 h
      simp only [Bool.and_eq_true, Bool.or_eq_true, beq_iff_eq] at hb
      obtain ⟨hb1, hb2⟩ := hb
      have hun : listed.getD e.on false = false := by
        rcases hb2 with rfl | hb2
        · exact hp
        · exact (dep_unlisted hc hp f _ hb2).1
      refine ⟨?_, fun hr => ?_⟩
      · cases hl : listed.getD j false with
        | false => rfl
        | true => have := hc j oj hj hl e he hb1; rw [hun] at this; cases this
      · obtain ⟨_, oj', hj', hall⟩ := mem_ready.1 hr
        have : oj' = oj := Option.some.inj (hj'.symm.trans hj)
        subst this
        have := hall e he hb1
        rw [hun] at this; cases this
    · cases h

def Cov (md : Region.Mode) (ops : Array Oper) (E : List Nat) (z n : Nat) : Prop := ∀ i, i < z → E.contains i = false → mvB ops i = false → i < ops.size → ∀ k ∈ E, z ≤ k → Region.dep md ops n i k = true

theorem Cov.use {n i : Nat} {listed : Array Bool} {w : World} (hcov : Cov md ops E z n) (hcl : ClosedL md ops listed) (hi : E.contains i = false) (hs : i < ops.size) (hun : listed.getD i false = false) (h : Cl C E z listed w) : Dz ops C z i w :=
  fun hm hz => h fun k hk hzk => (dep_unlisted hcl hun n k (hcov i hz hi hm hs k hk hzk)).1

def wpAnyM (P : Program) (md : Region.Mode) (ops : Array Oper) (C : World → Prop) (z : Nat) (E : List Nat) (Q : Act → World → Prop) : Nat → Array Bool → Act → World → Prop
  | 0, listed, a, w => Region.ready md ops listed = [] ∧ Q a w
  | f + 1, listed, a, w =>
    (Region.ready md ops listed = [] → Q a w) ∧ ∀ i ∈ Region.ready md ops listed, mixOp P ops (Dz ops C z) E (Cl C E z (listed.setIfInBounds i true)) i (fun a' w' => Cl C E z (listed.setIfInBounds i true) w' → wpAnyM P md ops C z E Q f (listed.setIfInBounds i true) a' w') a w

theorem wpAny_of_mix {n : Nat} {Q' : Exit → Act → World → Prop} (hQ : ∀ a w, Q a w → Q' .normal a w) (hcov : Cov md ops E z n) : ∀ (f : Nat) (listed : Array Bool) (a : Act) (w : World), Cl C E z listed w → ClosedL md ops listed →
    wpAnyM P md ops C z E Q f listed a w → wpAny P md ops Q' f listed a w
  | 0, _, _, _, _, _, h => ⟨h.1, hQ _ _ h.2⟩
  | f + 1, listed, a, w, hw, hcl, h => ⟨fun h0 => hQ _ _ (h.1 h0), fun i hi => by
      have h1 := h.2 i hi
      unfold mixOp at h1
      unfold wpOp
      split
      · rename_i ho; simp only [ho] at h1; exact wpAny_of_mix hQ hcov f _ _ _ (hw.mono i) (hcl.set hi) (h1 (hw.mono i))
      · rename_i o ho
        simp only [ho] at h1
        split
        · rename_i hwd
          rw [if_pos hwd] at h1
          refine .inl ?_
          split at h1
          · exact wp_noQ_mono (fun a' w' hk => wpAny_of_mix hQ hcov f _ _ _ hk.1 (hcl.set hi) (hk.2 hk.1)) h1
          · rename_i hE
            obtain ⟨v, hy, hk⟩ := h1
            have hun := getD_both (mem_ready.1 hi).1
            exact hy.wp (hcov.use hcl (by simpa using hE) (Array.getElem?_eq_some_iff.1 ho).1 hun hw) (wpAny_of_mix hQ hcov f _ _ _ (hw.mono i) (hcl.set hi) (hk (hw.mono i)))
        · rename_i hwd; rw [if_neg hwd] at h1; exact wpAny_of_mix hQ hcov f _ _ _ (hw.mono i) (hcl.set hi) (h1 (hw.mono i))⟩

theorem mix_quiet_first {i : Nat} {oi : Oper} {v : Value} (hi : ops[i]? = some oi) (hsel : ∀ (j : Nat) (o : Oper) cs b, ops[j]? = some o → o.op ≠ .select cs b) (hE : E.contains i = false) :
    ∀ (f : Nat) (listed : Array Bool) (a : Act) (w : World), Cl C E z listed w →
      (∀ j oj, ops[j]? = some oj → j ≠ i → listed.getD j true = false → (∀ e ∈ oj.after, Region.binds md e = true → e.on ≠ i) → oi.apart ops oj = true) →
      i ∈ Region.ready md ops listed →
      ((Region.wanted oi (yielded ops a.tmps) = true ∧ Yields P (Dz ops C z i) oi a v) ∨ (Region.wanted oi (yielded ops a.tmps) = false ∧ v = undef)) →
      wpAnyM P md ops C z E Q f (listed.setIfInBounds i true) (a.put oi.dst v) w → wpAnyM P md ops C z E Q (f + 1) listed a w := by
  have own : ∀ (a : Act) (w : World) (R : World → Prop) (K : Act → World → Prop), ((Region.wanted oi (yielded ops a.tmps) = true ∧ Yields P (Dz ops C z i) oi a v) ∨ (Region.wanted oi (yielded ops a.tmps) = false ∧ v = undef)) → K (a.put oi.dst v) w → mixOp P ops (Dz ops C z) E R i K a w := by
    intro a w R K hy hk
    unfold mixOp
    simp only [hi, hE]
    rcases hy with ⟨hw, hy⟩ | ⟨hw, rfl⟩
    · rw [if_pos hw]; exact ⟨v, hy, hk⟩
    · rw [hw]; exact hk
  intro f
  induction f with
  | zero =>
    intro listed a w hw _ hr hy H
    refine ⟨fun h => (by rw [h] at hr; cases hr), fun j hj => ?_⟩
    by_cases hji : j = i
    · subst hji; exact own a w _ _ hy (fun _ => H)
    · have := ready_mono hj hji
      rw [H.1] at this
      cases this
  | succ f ih =>
    intro listed a w hw hfree hr hy H
    refine ⟨fun h => (by rw [h] at hr; cases hr), fun j hj => ?_⟩
    by_cases hji : j = i
    · subst hji; exact own a w _ _ hy (fun _ => H)
    · have h1 := H.2 j (ready_mono hj hji)
      obtain ⟨hjun, oj, hoj, hall⟩ := mem_ready.1 hj
      have hnot : ∀ e ∈ oj.after, Region.binds md e = true → e.on ≠ i := fun e he hb heq => by
        have h1 := hall e he hb
        have h0 := (mem_ready.1 hr).1
        rw [heq] at h1
        rw [getD_both h0] at h1
        cases h1
      have hap := hfree j oj hoj hji hjun hnot
      have h2 := mixOp_put hoj hap (fun cs b => hsel i oi cs b hi) (fun cs b => hsel j oj cs b hoj) h1
      have h3 := mixOp_keep hoj hap (fun cs b => hsel i oi cs b hi) (fun a' => (Region.wanted oi (yielded ops a'.tmps) = true ∧ Yields P (Dz ops C z i) oi a' v) ∨ (Region.wanted oi (yielded ops a'.tmps) = false ∧ v = undef))
        (fun a' he hwd => by
          rcases hy with ⟨hwt, hy⟩ | ⟨hwt, hv⟩
          · exact .inl ⟨by rw [hwd]; exact hwt, hy.of_same he⟩
          · exact .inr ⟨by rw [hwd]; exact hwt, hv⟩) h2
      have hR : ∀ w, Cl C E z ((listed.setIfInBounds i true).setIfInBounds j true) w → Cl C E z (listed.setIfInBounds j true) w := fun w h => by
        rw [Array.setIfInBounds_comm _ _ (Ne.symm hji)] at h; exact h.quiet hE
      refine mixOp_mono hR (fun a' w' hk hw' => ?_) h3
      obtain ⟨hy', hk⟩ := hk
      refine ih (listed.setIfInBounds j true) a' w' hw' (fun k ok hk' hki hun hno => ?_) (ready_mono hr (Ne.symm hji)) hy' ?_
      · refine hfree k ok hk' hki ?_ hno
        by_cases hjk : j = k
        · subst hjk; exact hjun
        · rw [getD_set_ne true hjk] at hun; exact hun
      · have hw2 := hw'.mono i
        rw [Array.setIfInBounds_comm _ _ hji] at hw2 ⊢
        exact hk hw2

theorem mix_outcome {p : Nat} {op : Oper} (hp : ops[p]? = some op) (hE : E.contains p = true) {K : Act → World → Prop} {a : Act} {w : World} (hw : R w) (H : mixOp P ops D E R p (fun a' w' => R w' → K a' w') a w) :
    ∃ (x : List Deferred) (u : Value) (w' : World), R w' ∧ K (({ a with defers := x } : Act).put op.dst u) w' := by
  unfold mixOp at H
  simp only [hp, hE, if_true] at H
  split at H
  · unfold Oper.wp at H
    generalize (execOp a.eval op).run P w = r at H
    cases r with
    | ok k w' =>
      cases k <;> simp only [Oper.upon] at H
      case value u => exact ⟨a.defers, u, _, H.1, H.2 H.1⟩
      case skip => exact ⟨a.defers, _, _, H.1, H.2 H.1⟩
      case defer d => exact ⟨_, _, _, H.1, H.2 H.1⟩
      case enter g args =>
        obtain ⟨e, w'', fr, he, _⟩ := H []
        cases e with
        | returned u => exact ⟨a.defers, u, _, he.1, he.2 he.1⟩
        | panicked c => exact he.elim
        | outgrown => obtain ⟨_, _, hq⟩ := he; exact hq.elim
      case row g args =>
        obtain ⟨u, w'', he, _⟩ := H default []
        exact ⟨a.defers, u, _, he.1, he.2 he.1⟩
    | halt x w' => cases x <;> simp only [Oper.upon] at H; exact H.elim
  · exact ⟨a.defers, undef, w, hw, H hw⟩

theorem mix_eff_first {p n m : Nat} {op : Oper} (hcov : Cov md ops E z m) (hp : ops[p]? = some op) (hsel : ∀ (j : Nat) (o : Oper) cs b, ops[j]? = some o → o.op ≠ .select cs b) (hE : E.contains p = true) :
    ∀ (f : Nat) (listed : Array Bool) (a : Act) (w : World), Cl C E z listed w → ClosedL md ops listed →
      (∀ j oj, ops[j]? = some oj → j ≠ p → listed.getD j true = false → (∀ e ∈ oj.after, Region.binds md e = true → e.on ≠ p) → (E.contains j = true ∧ Region.dep md ops n p j = true) ∨ (E.contains j = false ∧ op.apart ops oj = true ∧ oj.apart ops op = true)) →
      p ∈ Region.ready md ops listed →
      mixOp P ops (Dz ops C z) E (Cl C E z (listed.setIfInBounds p true)) p (fun a' w' => Cl C E z (listed.setIfInBounds p true) w' → wpAnyM P md ops C z E Q f (listed.setIfInBounds p true) a' w') a w → wpAnyM P md ops C z E Q (f + 1) listed a w := by
  intro f
  induction f with
  | zero =>
    intro listed a w hw hcl hfree hr H
    refine ⟨fun h => (by rw [h] at hr; cases hr), fun j hj => ?_⟩
    by_cases hjp : j = p
    · subst hjp; exact H
    · exfalso
      have hj2 := ready_mono (i := p) hj hjp
      have hpn := getD_both (mem_ready.1 hr).1
      obtain ⟨_, _, _, _, h0, _⟩ := mix_outcome hp hE (hw.mono p) H
      rw [h0] at hj2
      cases hj2
  | succ f ih =>
    intro listed a w hw hcl hfree hr H
    refine ⟨fun h => (by rw [h] at hr; cases hr), fun j hj => ?_⟩
    by_cases hjp : j = p
    · subst hjp; exact H
    · obtain ⟨hjun, oj, hoj, hall⟩ := mem_ready.1 hj
      have hpu := (mem_ready.1 hr).1
      have hpn := getD_both hpu
      have hnot : ∀ e ∈ oj.after, Region.binds md e = true → e.on ≠ p := fun e he hb heq => by
        have h1 := hall e he hb
        rw [heq, hpn] at h1
        cases h1
      rcases hfree j oj hoj hjp hjun hnot with ⟨_, hd⟩ | ⟨hEj, hap, hap'⟩
      · exact absurd hj (dep_unlisted hcl hpn n j hd).2
      obtain ⟨g1, g2, g3⟩ := Oper.apart_spec hap
      obtain ⟨k1, k2, k3⟩ := Oper.apart_spec hap'
      have sj := fun cs b => hsel j oj cs b hoj
      have sp := fun cs b => hsel p op cs b hp
      -- behind p, j comes up
      have H2 : mixOp P ops (Dz ops C z) E (Cl C E z (listed.setIfInBounds p true)) p (fun a' w' => Cl C E z (listed.setIfInBounds p true) w' → mixOp P ops (Dz ops C z) E (Cl C E z ((listed.setIfInBounds p true).setIfInBounds j true)) j (fun a'' w'' => Cl C E z ((listed.setIfInBounds p true).setIfInBounds j true) w'' → wpAnyM P md ops C z E Q f ((listed.setIfInBounds p true).setIfInBounds j true) a'' w'') a' w') a w :=
        mixOp_mono (fun _ h => h) (fun a' w' hk hw' => (hk hw').2 j (ready_mono hj hjp)) H
      have toJ : ∀ w', Cl C E z (listed.setIfInBounds p true) w' → Cl C E z ((listed.setIfInBounds j true).setIfInBounds p true) w' := fun w' h => by
        have := h.mono j
        rw [Array.setIfInBounds_comm _ _ (Ne.symm hjp)] at this; exact this
      have ofJ : ∀ w', Cl C E z ((listed.setIfInBounds j true).setIfInBounds p true) w' → Cl C E z (listed.setIfInBounds p true) w' := fun w' h => by
        rw [Array.setIfInBounds_comm _ _ hjp] at h; exact h.quiet hEj
      have hjs : j < ops.size := (Array.getElem?_eq_some_iff.1 hoj).1
      have inD : ∀ w', Cl C E z (listed.setIfInBounds p true) w' → Dz ops C z j w' := fun w' h => hcov.use (hcl.set hr) hEj hjs (by rw [getD_set_ne false (Ne.symm hjp)]; exact getD_both hjun) h
      rw [Array.setIfInBounds_comm _ _ (Ne.symm hjp)] at H2
      have hfree' : ∀ k ok, ops[k]? = some ok → k ≠ p → (listed.setIfInBounds j true).getD k true = false → (∀ e ∈ ok.after, Region.binds md e = true → e.on ≠ p) → (E.contains k = true ∧ Region.dep md ops n p k = true) ∨ (E.contains k = false ∧ op.apart ops ok = true ∧ ok.apart ops op = true) := by
        intro k ok hk hkp hun hno
        refine hfree k ok hk hkp ?_ hno
        by_cases hjk : j = k
        · subst hjk; exact hjun
        · rw [getD_set_ne true hjk] at hun; exact hun
      have hrp := ready_mono (i := j) hr (fun h => hjp h.symm)
      -- the value that j leaves, here already
      unfold mixOp
      simp only [hoj, hEj, Bool.false_eq_true, if_false]
      by_cases hwj : Region.wanted oj (yielded ops a.tmps) = true
      · rw [if_pos hwj]
        have wjd : ∀ x u, Region.wanted oj (yielded ops (({ a with defers := x } : Act).put op.dst u).tmps) = true := fun x u => by rw [wanted_put oj _ op.dst u g1]; exact hwj
        have ejd : ∀ x u, execOp (({ a with defers := x } : Act).put op.dst u).eval oj = execOp a.eval oj := fun x u => by rw [execOp_put oj sj _ op.dst u g1]; rfl
        have opn : ∀ (a' : Act) (w' : World) (R : World → Prop) (K : Act → World → Prop), Region.wanted oj (yielded ops a'.tmps) = true → mixOp P ops (Dz ops C z) E R j K a' w' → ∃ v, Yields P (Dz ops C z j) oj a' v ∧ K (a'.put oj.dst v) w' := fun a' w' R K hwd h => by
          unfold mixOp at h
          simp only [hoj, hEj, hwd, if_true, Bool.false_eq_true, if_false] at h
          exact h
        have hv : ∃ v, Yields P (Dz ops C z j) oj a v := by
          obtain ⟨x, u, w', hw', h⟩ := mix_outcome hp hE (hw.mono p) H2
          obtain ⟨v, hy, _⟩ := opn _ _ _ _ (wjd x u) h
          exact ⟨v, hy.of_same (ejd x u).symm⟩
        obtain ⟨v, hv⟩ := hv
        refine ⟨v, hv, fun _ => ?_⟩
        refine ih (listed.setIfInBounds j true) (a.put oj.dst v) w (hw.mono j) (hcl.set hj) hfree' hrp ?_
        have H3 := mixOp_keep hp hap' sj (fun a' => Region.wanted oj (yielded ops a'.tmps) = true ∧ Yields P (Dz ops C z j) oj a' v) (fun a' he hwd => ⟨by rw [hwd]; exact hwj, hv.of_same he⟩) H2
        have H4 : mixOp P ops (Dz ops C z) E (Cl C E z ((listed.setIfInBounds j true).setIfInBounds p true)) p (fun a' w' => Cl C E z ((listed.setIfInBounds j true).setIfInBounds p true) w' → wpAnyM P md ops C z E Q f ((listed.setIfInBounds j true).setIfInBounds p true) (a'.put oj.dst v) w') a w := by
          refine mixOp_mono toJ (fun a' w' hk hw' => ?_) H3
          obtain ⟨⟨hwd, hy⟩, hk⟩ := hk
          obtain ⟨v', hy', hk'⟩ := opn _ _ _ _ hwd (hk (ofJ _ hw'))
          have : v = v' := hy.unique hy' (inD _ (ofJ _ hw'))
          subst this
          exact hk' hw'
        unfold mixOp at H4 ⊢
        simp only [hp, hE, if_true] at H4 ⊢
        rw [wanted_put op a oj.dst v k1]
        split
        · rename_i hwp
          rw [if_pos hwp] at H4
          exact wp_put' (execOp_put op sp a oj.dst v k1) (fun x hx => k2 x hx) H4
        · rename_i hwp
          rw [if_neg hwp] at H4
          rw [Act.put_comm a v undef k2]; exact H4
      · rw [if_neg hwj]
        intro _
        refine ih (listed.setIfInBounds j true) (a.put oj.dst undef) w (hw.mono j) (hcl.set hj) hfree' hrp ?_
        have hwj' : Region.wanted oj (yielded ops a.tmps) = false := by simpa using hwj
        have H3 := mixOp_keep hp hap' sj (fun a' => Region.wanted oj (yielded ops a'.tmps) = false) (fun a' _ hwd => by rw [hwd]; exact hwj') H2
        have H4 : mixOp P ops (Dz ops C z) E (Cl C E z ((listed.setIfInBounds j true).setIfInBounds p true)) p (fun a' w' => Cl C E z ((listed.setIfInBounds j true).setIfInBounds p true) w' → wpAnyM P md ops C z E Q f ((listed.setIfInBounds j true).setIfInBounds p true) (a'.put oj.dst undef) w') a w := by
          refine mixOp_mono toJ (fun a' w' hk hw' => ?_) H3
          obtain ⟨hwd, hk⟩ := hk
          have h := hk (ofJ _ hw')
          unfold mixOp at h
          simp only [hoj, hwd, Bool.false_eq_true, if_false] at h
          exact h hw'
        unfold mixOp at H4 ⊢
        simp only [hp, hE, if_true] at H4 ⊢
        rw [wanted_put op a oj.dst undef k1]
        split
        · rename_i hwp
          rw [if_pos hwp] at H4
          exact wp_put' (execOp_put op sp a oj.dst undef k1) (fun x hx => k2 x hx) H4
        · rename_i hwp
          rw [if_neg hwp] at H4
          rw [Act.put_comm a undef undef k2]; exact H4

/-! ### The text's order -/

def wpMixL (P : Program) (ops : Array Oper) (C : World → Prop) (E : List Nat) (Q : Act → World → Prop) : Nat → List Oper → Act → World → Prop
  | _, [], a, w => Q a w
  | k, o :: rest, a, w =>
    if Region.wanted o (yielded ops a.tmps) then
      (if E.contains k then o.wp P a w (fun a' w' => C w' ∧ wpMixL P ops C E Q (k + 1) rest a' w') NoQ else ∃ v, Yields P C o a v ∧ wpMixL P ops C E Q (k + 1) rest (a.put o.dst v) w)
    else wpMixL P ops C E Q (k + 1) rest (a.put o.dst undef) w

def Region.effFree (md : Region.Mode) (ops : Array Oper) (E : List Nat) (listed : Array Bool) (p : Nat) : Bool :=
  match ops[p]? with
  | none => false
  | some op => (List.range ops.size).all fun j => j == p || listed.getD j true || match ops[j]? with
      | some oj => oj.after.any (fun e => Region.binds md e && e.on == p) || (E.contains j && Region.dep md ops ops.size p j) || (!E.contains j && op.apart ops oj && oj.apart ops op)
      | none => true

def Region.lexMix (md : Region.Mode) (ops : Array Oper) (E : List Nat) : Nat → Nat → Array Bool → Bool
  | 0, _, listed => (Region.ready md ops listed).isEmpty
  | f + 1, k, listed => (Region.ready md ops listed).contains k && (if E.contains k then Region.effFree md ops E listed k else Region.free md ops listed k) && Region.lexMix md ops E f (k + 1) (listed.setIfInBounds k true)

def Region.covB (md : Region.Mode) (ops : Array Oper) (E : List Nat) (z : Nat) : Bool :=
  (List.range ops.size).all fun i => decide (z ≤ i) || E.contains i || mvB ops i || E.all fun k => decide (k < z) || Region.dep md ops ops.size i k

def Region.mixB (md : Region.Mode) (ops : Array Oper) (E : List Nat) (z : Nat) : Bool := Region.noSelect ops && Region.lexMix md ops E ops.size 0 (Array.replicate ops.size false) && Region.covB md ops E z

theorem covB_spec (h : Region.covB md ops E z = true) : Cov md ops E z ops.size := by
  intro i hi hE hm hs k hk hz
  simp only [Region.covB, List.all_eq_true, List.mem_range, Bool.or_eq_true, decide_eq_true_eq] at h
  rcases h i hs with ((h | h) | h) | h
  · omega
  · rw [hE] at h; cases h
  · rw [hm] at h; cases h
  · rcases h k hk with h | h
    · omega
    · exact h

theorem effFree_spec {E : List Nat} {listed : Array Bool} {p : Nat} {op : Oper} (hp : ops[p]? = some op) (h : Region.effFree md ops E listed p = true) (j : Nat) (oj : Oper) (hj : ops[j]? = some oj) (hne : j ≠ p) (hun : listed.getD j true = false)
    (hno : ∀ e ∈ oj.after, Region.binds md e = true → e.on ≠ p) : (E.contains j = true ∧ Region.dep md ops ops.size p j = true) ∨ (E.contains j = false ∧ op.apart ops oj = true ∧ oj.apart ops op = true) := by
  simp only [Region.effFree, hp, List.all_eq_true, List.mem_range] at h
  have h1 := h j (Array.getElem?_eq_some_iff.1 hj).1
  simp only [hj, Bool.or_eq_true, beq_iff_eq, hne, false_or, hun, Bool.false_eq_true, Bool.and_eq_true, Bool.not_eq_true'] at h1
  rcases h1 with (h1 | h1) | h1
  · obtain ⟨e, he, hb⟩ := Array.any_eq_true'.1 h1
    simp only [Bool.and_eq_true, beq_iff_eq] at hb
    exact absurd hb.2 (hno e he hb.1)
  · exact .inl h1
  · exact .inr ⟨h1.1.1, h1.1.2, h1.2⟩

def wpMixS (P : Program) (ops : Array Oper) (C : World → Prop) (z : Nat) (E : List Nat) (Q : Act → World → Prop) : Nat → List Oper → Act → World → Prop
  | _, [], a, w => Q a w
  | k, o :: rest, a, w =>
    if Region.wanted o (yielded ops a.tmps) then
      (if E.contains k then o.wp P a w (fun a' w' => (k < z → C w') ∧ wpMixS P ops C z E Q (k + 1) rest a' w') NoQ else ∃ v, Yields P (Dz ops C z k) o a v ∧ wpMixS P ops C z E Q (k + 1) rest (a.put o.dst v) w)
    else wpMixS P ops C z E Q (k + 1) rest (a.put o.dst undef) w

def Pre (k : Nat) (listed : Array Bool) : Prop := ∀ j, listed.getD j false = true → j < k

theorem Pre.set {k : Nat} {listed : Array Bool} (h : Pre k listed) : Pre (k + 1) (listed.setIfInBounds k true) := fun j hj => by
  by_cases hk : k = j
  · omega
  · rw [getD_set_ne false hk] at hj; have := h j hj; omega

theorem wpAnyM_lex (hsel : Region.noSelect ops = true) {m : Nat} (hcov : Cov md ops E z m) : ∀ (l : List Oper) (k : Nat) (listed : Array Bool) (a : Act) (w : World), Cl C E z listed w → ClosedL md ops listed → (∀ j, l[j]? = ops[k + j]?) →
    (∀ j < k, listed.getD j false = true) → Pre k listed → k + l.length = ops.size → ops.size = listed.size →
    Region.lexMix md ops E l.length k listed = true → wpMixS P ops C z E Q k l a w → wpAnyM P md ops C z E Q l.length listed a w
  | [], _, _, _, _, _, _, _, _, _, _, _, hB, h => ⟨by simpa [Region.lexMix] using hB, h⟩
  | o :: l, k, listed, a, w, hw, hcl, hl, hall, hpre, hlen, hsz, hB, h => by
    have h0 : ops[k]? = some o := by simpa using (hl 0).symm
    simp only [List.length_cons, Region.lexMix, Bool.and_eq_true] at hB
    obtain ⟨⟨hr, hf⟩, hB'⟩ := hB
    have hr' : k ∈ Region.ready md ops listed := by simpa using hr
    have hl' : ∀ j, l[j]? = ops[k + 1 + j]? := fun j => by have := hl (j + 1); simpa [Nat.add_assoc, Nat.add_comm 1 j] using this
    have hks : k < listed.size := by simp only [List.length_cons] at hlen; omega
    have hall' : ∀ j < k + 1, (listed.setIfInBounds k true).getD j false = true := fun j hj => by
      by_cases hjk : k = j
      · subst hjk; rw [Array.getD_eq_getD_getElem?, Array.getElem?_setIfInBounds_self_of_lt hks]; rfl
      · rw [getD_set_ne false hjk]; exact hall j (by omega)
    have ih := fun a w hw => wpAnyM_lex hsel hcov l (k + 1) (listed.setIfInBounds k true) a w hw (hcl.set hr') hl' hall' hpre.set (by simp only [List.length_cons] at hlen; omega) (by simpa using hsz) hB'
    cases hE : E.contains k with
    | true =>
      rw [hE] at hf
      refine mix_eff_first hcov h0 (Region.noSelect_spec hsel) hE l.length listed a w hw hcl (effFree_spec h0 hf) hr' ?_
      have cls : ∀ w', (k < z → C w') → Cl C E z (listed.setIfInBounds k true) w' := fun w' h1 h2 => by
        by_cases hkz : k < z
        · exact h1 hkz
        · have := h2 k (List.contains_iff_mem.1 hE) (by omega)
          rw [hall' k (by omega)] at this; cases this
      unfold mixOp
      unfold wpMixS at h
      simp only [h0, hE, if_true] at h ⊢
      split
      · rename_i hwd; rw [if_pos hwd] at h; exact wp_noQ_mono (fun a' w' hk => ⟨cls _ hk.1, fun hw' => ih a' w' hw' hk.2⟩) h
      · rename_i hwd; rw [if_neg hwd] at h; exact fun hw' => ih _ _ hw' h
    | false =>
      rw [hE] at hf
      unfold wpMixS at h
      simp only [hE, Bool.false_eq_true, if_false] at h
      by_cases hwd : Region.wanted o (yielded ops a.tmps) = true
      · rw [if_pos hwd] at h
        obtain ⟨v, hy, hk⟩ := h
        exact mix_quiet_first h0 (Region.noSelect_spec hsel) hE l.length listed a w hw (Region.free_spec h0 hf) hr' (.inl ⟨hwd, hy⟩) (ih _ _ (hw.mono k) hk)
      · rw [if_neg hwd] at h
        exact mix_quiet_first h0 (Region.noSelect_spec hsel) hE l.length listed a w hw (Region.free_spec h0 hf) hr' (.inr ⟨by simpa using hwd, rfl⟩) (ih _ _ (hw.mono k) h)

theorem Yields.class {C' : World → Prop} {o : Oper} {a : Act} {v : Value} (h : Yields P C o a v) (hs : ∀ w, C' w → C w) : Yields P C' o a v := ⟨h.1, fun w hw => by
  have h1 := h.2 w (hs w hw)
  have h2 := fun f args w' => plain_noEnter (P := P) (ρ := a.eval) h.1 (w := w) (w' := w') (f := f) (args := args)
  unfold Oper.quietAt at *
  generalize (execOp a.eval o).run P w = r at *
  cases r with
  | ok n w' =>
    cases n <;> simp only [Oper.quietUpon] at h1 ⊢
    case value u => exact h1
    case skip => exact h1
    case enter f args => exact absurd rfl (h2 f args w')
  | halt x w' => exact h1⟩
theorem Yields.dz {o : Oper} {a : Act} {v : Value} {k : Nat} (hk : k < z) (hm : mvB ops k = false) (h : Yields P C o a v) : Yields P (Dz ops C z k) o a v := h.class fun w hw => hw hm hk
theorem Yields.move {o : Oper} {a : Act} {v : Value} {x : Operand} (ho : o.op = .move x) {w : World} (hw : C w) (h : Yields P C o a v) {C' : World → Prop} : Yields P C' o a v := ⟨h.1, fun w' _ => by
  have h1 := h.2 w hw
  unfold Oper.quietAt at *
  rw [BigFrame.run_move x ho] at h1 ⊢
  exact ⟨rfl, h1.2⟩⟩
theorem Yields.any {o : Oper} {a : Act} {v : Value} (h : Yields P (fun _ => True) o a v) {C' : World → Prop} : Yields P C' o a v := h.class fun _ _ => trivial

theorem mixS_tail : ∀ (l : List Oper) (k : Nat) (a : Act) (w : World), z ≤ k → wpMixL P ops (fun _ => True) E Q k l a w → wpMixS P ops C z E Q k l a w
  | [], _, _, _, _, h => h
  | o :: l, k, a, w, hz, h => by
    unfold wpMixL at h
    unfold wpMixS
    split
    · rename_i hw
      rw [if_pos hw] at h
      split
      · rename_i hE
        rw [if_pos hE] at h
        exact wp_noQ_mono (fun a' w' hk => ⟨fun hlt => absurd hlt (by omega), mixS_tail l (k + 1) a' w' (by omega) hk.2⟩) h
      · rename_i hE
        rw [if_neg hE] at h
        obtain ⟨v, hv, hk⟩ := h
        exact ⟨v, hv.any, mixS_tail l (k + 1) _ w (by omega) hk⟩
    · rename_i hw
      rw [if_neg hw] at h
      exact mixS_tail l (k + 1) _ w (by omega) h

theorem mixS_of : ∀ (n : Nat) (l : List Oper) (k : Nat) (a : Act) (w : World), C w → (∀ j, l[j]? = ops[k + j]?) → k + n = z → n ≤ l.length → wpMixL P ops C E (fun a' w' => wpMixL P ops (fun _ => True) E Q z (l.drop n) a' w') k (l.take n) a w → wpMixS P ops C z E Q k l a w
  | 0, l, k, a, w, _, _, hk, _, h => by
    simp only [List.take_zero, List.drop_zero, wpMixL] at h
    have : k = z := by omega
    subst this
    exact mixS_tail l k a w (Nat.le_refl _) h
  | n + 1, [], _, _, _, _, _, _, hn, _ => by simp at hn
  | n + 1, o :: l, k, a, w, hw0, hl, hk, hn, h => by
    simp only [List.take_succ_cons, List.drop_succ_cons] at h
    unfold wpMixL at h
    unfold wpMixS
    have h0 : ops[k]? = some o := by simpa using (hl 0).symm
    have ih := fun a w hw => mixS_of n l (k + 1) a w hw (fun j => by have := hl (j + 1); simpa [Nat.add_assoc, Nat.add_comm 1 j] using this) (by omega) (by simpa using hn)
    split
    · rename_i hw
      rw [if_pos hw] at h
      split
      · rename_i hE
        rw [if_pos hE] at h
        exact wp_noQ_mono (fun a' w' hk => ⟨fun _ => hk.1, ih a' w' hk.1 hk.2⟩) h
      · rename_i hE
        rw [if_neg hE] at h
        obtain ⟨v, hv, hk'⟩ := h
        refine ⟨v, ?_, ih _ _ hw0 hk'⟩
        cases hm : mvB ops k with
        | false => exact hv.dz (by omega) hm
        | true =>
          unfold mvB at hm
          simp only [h0] at hm
          split at hm
          · rename_i x hx; exact hv.move hx hw0
          · cases hm
    · rename_i hw
      rw [if_neg hw] at h
      exact ih _ _ hw0 h

theorem wp_region_mixZ {id : Nat} {Q' : Exit → Act → World → Prop} {a : Act} {w : World} {l : List Oper} (C : World → Prop) (E : List Nat) (z : Nat) (hm : P.follows .mixedOrders = true) (hB : Region.mixB .any l.toArray E z = true) (hz : z ≤ l.length) (hC : C w.drew)
    (h : wpMixL P l.toArray C E (fun a' w' => wpMixL P l.toArray (fun _ => True) E (fun a' w' => Q' .normal a' w') z (l.drop z) a' w') 0 (l.take z) a w.drew) : (Code.region id l.toArray true).wp P Q' a w := by
  simp only [Region.mixB, Bool.and_eq_true] at hB
  obtain ⟨⟨hB1, hB2⟩, hB3⟩ := hB
  have hcov := covB_spec hB3
  have h0 : ∀ j, (Array.replicate l.toArray.size false).getD j false = false := fun j => by
    rw [Array.getD_eq_getD_getElem?, Array.getElem?_replicate]; split <;> rfl
  refine wp_region_any hm (wpAny_of_mix (E := E) (z := z) (C := C) (Q := fun a' w' => Q' .normal a' w') (fun _ _ h => h) hcov _ _ _ _ (fun _ => hC) (fun j oj _ hl => by rw [h0] at hl; cases hl) ?_)
  have := wpAnyM_lex (md := .any) (C := C) (E := E) (z := z) (Q := fun a' w' => Q' .normal a' w') hB1 hcov l 0 (Array.replicate l.toArray.size false) a w.drew (fun _ => hC) (fun j oj _ hl => by rw [h0] at hl; cases hl) (fun j => by simp)
    (fun j hj => absurd hj (Nat.not_lt_zero j)) (fun j hj => by rw [h0] at hj; cases hj) (by simp) (by simp) (by simpa using hB2) (mixS_of z l 0 a w.drew hC (fun j => by simp) (by omega) hz h)
  simpa using this

theorem wp_region_mix {id : Nat} {Q' : Exit → Act → World → Prop} {a : Act} {w : World} {l : List Oper} (E : List Nat) (z : Nat) (hm : P.follows .mixedOrders = true) (hB : Region.mixB .any l.toArray E z = true) (hz : z ≤ l.length)
    (h : wpMixL P l.toArray (fun w' => ∃ e, w' = over w e) E (fun a' w' => wpMixL P l.toArray (fun _ => True) E (fun a' w' => Q' .normal a' w') z (l.drop z) a' w') 0 (l.take z) a w.drew) : (Code.region id l.toArray true).wp P Q' a w :=
  wp_region_mixZ _ E z hm hB hz (ex_drew (over_self w)) h

theorem mixL_nil {k : Nat} {a : Act} {w : World} (h : Q a w) : wpMixL P ops C E Q k [] a w := h

theorem mixL_quiet {k : Nat} {a : Act} {w : World} {l : List Oper} (n : Nat) (hB : ((List.range n).all (fun i => !E.contains (k + i)) && (l.take n).all (fun o => plainOp o.op)) = true)
    (h : wpQuiet P ops C (fun a' => wpMixL P ops C E Q (k + n) (l.drop n) a' w) (l.take n) a) : wpMixL P ops C E Q k l a w := by
  simp only [Bool.and_eq_true, List.all_eq_true, List.mem_range, Bool.not_eq_true'] at hB
  obtain ⟨h1, h2⟩ := hB
  induction n generalizing k l a with
  | zero => simpa [wpQuiet] using h
  | succ n ih =>
    cases l with
    | nil =>
      simp only [List.take_nil, List.drop_nil, wpQuiet] at h
      exact h
    | cons o l =>
      simp only [List.take_succ_cons, List.drop_succ_cons, wpQuiet] at h
      have e : k + (n + 1) = k + 1 + n := by omega
      rw [e] at h
      have hk : E.contains k = false := h1 0 (by omega)
      have h1' : ∀ i, i < n → E.contains (k + 1 + i) = false := fun i hi => by have := h1 (i + 1) (by omega); rwa [show k + (i + 1) = k + 1 + i by omega] at this
      have h2' : ∀ x ∈ l.take n, plainOp x.op = true := fun x hx => h2 x (by simp [hx])
      unfold wpMixL
      split
      · rename_i hw
        rw [if_pos hw] at h
        simp only [hk, Bool.false_eq_true, if_false]
        obtain ⟨v, hv, hn⟩ := h
        exact ⟨v, ⟨h2 o (by simp), hv⟩, ih hn h1' h2'⟩
      · rename_i hw
        rw [if_neg hw] at h
        exact ih h h1' h2'

def MixQ (P : Program) (ops : Array Oper) (C : World → Prop) (E : List Nat) (Q : Act → World → Prop) (k : Nat) (rest : List Oper) : Exit → Act → World → Prop
  | .normal, a, w => C w ∧ wpMixL P ops C E Q k rest a w
  | _, _, _ => False

theorem MixQ.mk {k : Nat} {rest : List Oper} {a : Act} {w : World} (h1 : C w) (h2 : wpMixL P ops C E Q k rest a w) : MixQ P ops C E Q k rest .normal a w := ⟨h1, h2⟩

theorem mixL_eff {k : Nat} {a : Act} {w : World} {o : Oper} {rest : List Oper} (hE : E.contains k = true) (h : wpList P ops (MixQ P ops C E Q (k + 1) rest) [o] a w) : wpMixL P ops C E Q k (o :: rest) a w := by
  unfold wpList at h
  unfold wpMixL
  simp only [hE, if_true]
  split
  · rename_i hw
    rw [if_pos hw] at h
    rcases h with h | ⟨_, _, _, h⟩
    · unfold Oper.wp at *
      generalize (execOp a.eval o).run P w = r at *
      cases r with
      | ok n w' =>
        cases n <;> simp only [Oper.upon, wpList] at h ⊢
        case value u => exact h
        case skip => exact h
        case defer d => exact h
        case enter f args =>
          refine h.mono fun e w'' he => ?_
          cases e with
          | returned v => exact he
          | panicked c => exact he.elim
          | outgrown => obtain ⟨_, _, hq⟩ := he; exact hq.elim
        case row r args => exact h
      | halt x w' => cases x <;> simp only [Oper.upon] at h ⊢; exact h.elim
    · exact h.elim
  · rename_i hw
    rw [if_neg hw] at h
    exact h.2
end
end M2
end Go.Proofs.YtnihngljmmbenaaGreatDoor
