/- A region that draws its order, in which operations that change the world stand in no fixed order among themselves (a variable's block beside a call): a tree of the orders of those; the others read what stays. -/
import Derived.Test.YthljlajdkdgieaaDoorMix2
namespace Go.Proofs.YthljlajdkdgieaaDoor
set_option linter.unusedVariables false
set_option linter.unusedSimpArgs false
namespace M2
section
variable {P : Program} {ops : Array Oper} {md : Region.Mode} {C R : World → Prop} {D : Nat → World → Prop} {z : Nat} {E : List Nat} {Q : Act → World → Prop}

/-- Of some operations that change the world one comes first. -/
theorem mix_set_first {n m : Nat} (S : List Nat) (hne : S ≠ []) (hcov : Cov md ops E z m) (hsel : ∀ (j : Nat) (o : Oper) cs b, ops[j]? = some o → o.op ≠ .select cs b) (hS : ∀ p ∈ S, E.contains p = true ∧ ∃ op, ops[p]? = some op) :
    ∀ (f : Nat) (listed : Array Bool) (a : Act) (w : World), Cl C E z listed w → ClosedL md ops listed →
      (∀ j oj, ops[j]? = some oj → j ∉ S → listed.getD j true = false →
        (E.contains j = true ∧ ∃ q ∈ S, Region.dep md ops n q j = true) ∨ (E.contains j = false ∧ ∀ p ∈ S, (∃ e ∈ oj.after, Region.binds md e = true ∧ e.on = p) ∨ ∀ op, ops[p]? = some op → op.apart ops oj = true ∧ oj.apart ops op = true)) →
      (∀ p ∈ S, p ∈ Region.ready md ops listed) →
      (∀ p ∈ S, mixOp P ops (Dz ops C z) E (Cl C E z (listed.setIfInBounds p true)) p (fun a' w' => Cl C E z (listed.setIfInBounds p true) w' → wpAnyM P md ops C z E Q f (listed.setIfInBounds p true) a' w') a w) → wpAnyM P md ops C z E Q (f + 1) listed a w := by
  intro f
  obtain ⟨p0, hp0⟩ := List.exists_mem_of_ne_nil S hne
  induction f with
  | zero =>
    intro listed a w hw hcl hfree hr H
    refine ⟨fun h => (by have := hr p0 hp0; rw [h] at this; cases this), fun j hj => ?_⟩
    by_cases hjS : j ∈ S
    · exact H j hjS
    · exfalso
      have hjp : j ≠ p0 := fun h => hjS (h ▸ hp0)
      obtain ⟨hE0, op0, hop0⟩ := hS p0 hp0
      have hj2 := ready_mono (i := p0) hj hjp
      obtain ⟨_, _, _, _, h0, _⟩ := mix_outcome hop0 hE0 (hw.mono p0) (H p0 hp0)
      rw [h0] at hj2
      cases hj2
  | succ f ih =>
    intro listed a w hw hcl hfree hr H
    refine ⟨fun h => (by have := hr p0 hp0; rw [h] at this; cases this), fun j hj => ?_⟩
    by_cases hjS : j ∈ S
    · exact H j hjS
    · obtain ⟨hjun, oj, hoj, hall⟩ := mem_ready.1 hj
      have hjp : ∀ p ∈ S, j ≠ p := fun p hp h => hjS (h ▸ hp)
      have hpn : ∀ p ∈ S, listed.getD p false = false := fun p hp => getD_both (mem_ready.1 (hr p hp)).1
      have hnot : ∀ p ∈ S, ¬ ∃ e ∈ oj.after, Region.binds md e = true ∧ e.on = p := fun p hp ⟨e, he, hb, heq⟩ => by
        have h1 := hall e he hb
        rw [heq, hpn p hp] at h1
        cases h1
      have hEj : E.contains j = false := by
        rcases hfree j oj hoj hjS hjun with ⟨_, q, hq, hd⟩ | ⟨h, _⟩
        · exact absurd hj (dep_unlisted hcl (hpn q hq) n j hd).2
        · exact h
      have hapS : ∀ p ∈ S, ∀ op, ops[p]? = some op → op.apart ops oj = true ∧ oj.apart ops op = true := fun p hp op hop => by
        rcases hfree j oj hoj hjS hjun with ⟨h, _⟩ | ⟨_, h⟩
        · rw [hEj] at h; cases h
        · rcases h p hp with h | h
          · exact absurd h (hnot p hp)
          · exact h op hop
      have sj := fun cs b => hsel j oj cs b hoj
      have hjs : j < ops.size := (Array.getElem?_eq_some_iff.1 hoj).1
      have hfree' : ∀ k ok, ops[k]? = some ok → k ∉ S → (listed.setIfInBounds j true).getD k true = false →
          (E.contains k = true ∧ ∃ q ∈ S, Region.dep md ops n q k = true) ∨ (E.contains k = false ∧ ∀ p ∈ S, (∃ e ∈ ok.after, Region.binds md e = true ∧ e.on = p) ∨ ∀ op, ops[p]? = some op → op.apart ops ok = true ∧ ok.apart ops op = true) := by
        intro k ok hk hkS hun
        refine hfree k ok hk hkS ?_
        by_cases hjk : j = k
        · subst hjk; exact hjun
        · rw [getD_set_ne true hjk] at hun; exact hun
      have hr' : ∀ p ∈ S, p ∈ Region.ready md ops (listed.setIfInBounds j true) := fun p hp => ready_mono (i := j) (hr p hp) (fun h => hjp p hp h.symm)
      -- for each p: behind p, j comes up
      have H2 : ∀ p ∈ S, mixOp P ops (Dz ops C z) E (Cl C E z (listed.setIfInBounds p true)) p (fun a' w' => Cl C E z (listed.setIfInBounds p true) w' → mixOp P ops (Dz ops C z) E (Cl C E z ((listed.setIfInBounds j true).setIfInBounds p true)) j (fun a'' w'' => Cl C E z ((listed.setIfInBounds j true).setIfInBounds p true) w'' → wpAnyM P md ops C z E Q f ((listed.setIfInBounds j true).setIfInBounds p true) a'' w'') a' w') a w := fun p hp => by
        have := mixOp_mono (fun _ h => h) (fun a' w' hk hw' => (hk hw').2 j (ready_mono hj (hjp p hp))) (H p hp)
        rw [Array.setIfInBounds_comm _ _ (Ne.symm (hjp p hp))] at this
        exact this
      have toJ : ∀ p ∈ S, ∀ w', Cl C E z (listed.setIfInBounds p true) w' → Cl C E z ((listed.setIfInBounds j true).setIfInBounds p true) w' := fun p hp w' h => by
        have := h.mono j
        rw [Array.setIfInBounds_comm _ _ (Ne.symm (hjp p hp))] at this; exact this
      have ofJ : ∀ p ∈ S, ∀ w', Cl C E z ((listed.setIfInBounds j true).setIfInBounds p true) w' → Cl C E z (listed.setIfInBounds p true) w' := fun p hp w' h => by
        rw [Array.setIfInBounds_comm _ _ (hjp p hp)] at h; exact h.quiet hEj
      have inD : ∀ p ∈ S, ∀ w', Cl C E z (listed.setIfInBounds p true) w' → Dz ops C z j w' := fun p hp w' h => hcov.use (hcl.set (hr p hp)) hEj hjs (by rw [getD_set_ne false (Ne.symm (hjp p hp))]; exact getD_both hjun) h
      unfold mixOp
      simp only [hoj, hEj, Bool.false_eq_true, if_false]
      by_cases hwj : Region.wanted oj (yielded ops a.tmps) = true
      · rw [if_pos hwj]
        have opn : ∀ (a' : Act) (w' : World) (R : World → Prop) (K : Act → World → Prop), Region.wanted oj (yielded ops a'.tmps) = true → mixOp P ops (Dz ops C z) E R j K a' w' → ∃ v, Yields P (Dz ops C z j) oj a' v ∧ K (a'.put oj.dst v) w' := fun a' w' R K hwd h => by
          unfold mixOp at h
          simp only [hoj, hEj, hwd, if_true, Bool.false_eq_true, if_false] at h
          exact h
        have hv : ∃ v, Yields P (Dz ops C z j) oj a v := by
          obtain ⟨hE0, op0, hop0⟩ := hS p0 hp0
          obtain ⟨g1, g2, g3⟩ := Oper.apart_spec (hapS p0 hp0 op0 hop0).1
          obtain ⟨x, u, w', hw', h⟩ := mix_outcome hop0 hE0 (hw.mono p0) (H2 p0 hp0)
          obtain ⟨v, hy, _⟩ := opn _ _ _ _ (by rw [wanted_put oj _ op0.dst u g1]; exact hwj) h
          exact ⟨v, hy.of_same (by rw [execOp_put oj sj _ op0.dst u g1]; rfl)⟩
        obtain ⟨v, hv⟩ := hv
        refine ⟨v, hv, fun _ => ?_⟩
        refine ih (listed.setIfInBounds j true) (a.put oj.dst v) w (hw.mono j) (hcl.set hj) hfree' hr' (fun p hp => ?_)
        obtain ⟨hEp, op, hop⟩ := hS p hp
        obtain ⟨k1, k2, k3⟩ := Oper.apart_spec (hapS p hp op hop).2
        have sp := fun cs b => hsel p op cs b hop
        have H3 := mixOp_keep hop (hapS p hp op hop).2 sj (fun a' => Region.wanted oj (yielded ops a'.tmps) = true ∧ Yields P (Dz ops C z j) oj a' v) (fun a' he hwd => ⟨by rw [hwd]; exact hwj, hv.of_same he⟩) (H2 p hp)
        have H4 : mixOp P ops (Dz ops C z) E (Cl C E z ((listed.setIfInBounds j true).setIfInBounds p true)) p (fun a' w' => Cl C E z ((listed.setIfInBounds j true).setIfInBounds p true) w' → wpAnyM P md ops C z E Q f ((listed.setIfInBounds j true).setIfInBounds p true) (a'.put oj.dst v) w') a w := by
          refine mixOp_mono (toJ p hp) (fun a' w' hk hw' => ?_) H3
          obtain ⟨⟨hwd, hy⟩, hk⟩ := hk
          obtain ⟨v', hy', hk'⟩ := opn _ _ _ _ hwd (hk (ofJ p hp _ hw'))
          have : v = v' := hy.unique hy' (inD p hp _ (ofJ p hp _ hw'))
          subst this
          exact hk' hw'
        unfold mixOp at H4 ⊢
        simp only [hop, hEp, if_true] at H4 ⊢
        rw [wanted_put op a oj.dst v k1]
        split
        · rename_i hwp
          rw [if_pos hwp] at H4
          exact wp_put' (execOp_put op sp a oj.dst v k1) (fun x hx => k2 x hx) H4
        · rename_i hwp
          rw [if_neg hwp] at H4
          rw [Act.put_comm a v undef k2]; exact H4
      · rw [if_neg hwj]
        intro _
        refine ih (listed.setIfInBounds j true) (a.put oj.dst undef) w (hw.mono j) (hcl.set hj) hfree' hr' (fun p hp => ?_)
        have hwj' : Region.wanted oj (yielded ops a.tmps) = false := by simpa using hwj
        obtain ⟨hEp, op, hop⟩ := hS p hp
        obtain ⟨k1, k2, k3⟩ := Oper.apart_spec (hapS p hp op hop).2
        have sp := fun cs b => hsel p op cs b hop
        have H3 := mixOp_keep hop (hapS p hp op hop).2 sj (fun a' => Region.wanted oj (yielded ops a'.tmps) = false) (fun a' _ hwd => by rw [hwd]; exact hwj') (H2 p hp)
        have H4 : mixOp P ops (Dz ops C z) E (Cl C E z ((listed.setIfInBounds j true).setIfInBounds p true)) p (fun a' w' => Cl C E z ((listed.setIfInBounds j true).setIfInBounds p true) w' → wpAnyM P md ops C z E Q f ((listed.setIfInBounds j true).setIfInBounds p true) (a'.put oj.dst undef) w') a w := by
          refine mixOp_mono (toJ p hp) (fun a' w' hk hw' => ?_) H3
          obtain ⟨hwd, hk⟩ := hk
          have h := hk (ofJ p hp _ hw')
          unfold mixOp at h
          simp only [hoj, hwd, Bool.false_eq_true, if_false] at h
          exact h hw'
        unfold mixOp at H4 ⊢
        simp only [hop, hEp, if_true] at H4 ⊢
        rw [wanted_put op a oj.dst undef k1]
        split
        · rename_i hwp
          rw [if_pos hwp] at H4
          exact wp_put' (execOp_put op sp a oj.dst undef k1) (fun x hx => k2 x hx) H4
        · rename_i hwp
          rw [if_neg hwp] at H4
          rw [Act.put_comm a undef undef k2]; exact H4

/-- A tree of orders: 'q k p': operation k, that only reads, then p; 'e k p r': operation k, that changes the world, then p; or else what r says. -/
inductive Plan where
  | done
  | no
  | q (k : Nat) (p : Plan)
  | e (k : Nat) (p : Plan) (r : Plan)
def Plan.heads : Plan → List Nat
  | .e k _ r => k :: r.heads
  | _ => []
def Plan.depth : Plan → Nat
  | .done => 0
  | .no => 0
  | .q _ p => p.depth + 1
  | .e _ p r => max (p.depth + 1) r.depth

def wpTree (P : Program) (ops : Array Oper) (C : World → Prop) (Q : Act → World → Prop) : Plan → Act → World → Prop
  | .done, a, w => Q a w
  | .no, _, _ => True
  | .q k p, a, w => ∃ o, ops[k]? = some o ∧ (if Region.wanted o (yielded ops a.tmps) then ∃ v, Yields P C o a v ∧ wpTree P ops C Q p (a.put o.dst v) w else wpTree P ops C Q p (a.put o.dst undef) w)
  | .e k p r, a, w => (∃ o, ops[k]? = some o ∧ (if Region.wanted o (yielded ops a.tmps) then o.wp P a w (fun a' w' => C w' ∧ wpTree P ops C Q p a' w') NoQ else wpTree P ops C Q p (a.put o.dst undef) w)) ∧ wpTree P ops C Q r a w

/-- May one of S come first? -/
def Region.setOk (md : Region.Mode) (ops : Array Oper) (E S : List Nat) (listed : Array Bool) : Bool :=
  (S.all fun p => (Region.ready md ops listed).contains p && E.contains p) && (List.range ops.size).all fun j => S.contains j || listed.getD j true || match ops[j]? with
    | none => true
    | some oj => (E.contains j && S.any fun q => Region.dep md ops ops.size q j) || (!E.contains j && S.all fun p => (oj.after.any fun e => Region.binds md e && e.on == p) || match ops[p]? with
      | some op => op.apart ops oj && oj.apart ops op
      | none => false)
def Region.treeB (md : Region.Mode) (ops : Array Oper) (E : List Nat) : Bool → Plan → Array Bool → Bool
  | true, .done, listed => (Region.ready md ops listed).isEmpty
  | true, .no, _ => false
  | true, .q k p, listed => (Region.ready md ops listed).contains k && !E.contains k && Region.free md ops listed k && Region.treeB md ops E true p (listed.setIfInBounds k true)
  | true, .e k p r, listed => Region.setOk md ops E (k :: r.heads) listed && Region.treeB md ops E true p (listed.setIfInBounds k true) && Region.treeB md ops E false r listed
  | false, .e k p r, listed => Region.treeB md ops E true p (listed.setIfInBounds k true) && Region.treeB md ops E false r listed
  | false, .no, _ => true
  | false, _, _ => false

theorem setOk_spec {S : List Nat} {listed : Array Bool} (h : Region.setOk md ops E S listed = true) :
    (∀ p ∈ S, p ∈ Region.ready md ops listed ∧ E.contains p = true) ∧
    (∀ j oj, ops[j]? = some oj → j ∉ S → listed.getD j true = false →
        (E.contains j = true ∧ ∃ q ∈ S, Region.dep md ops ops.size q j = true) ∨ (E.contains j = false ∧ ∀ p ∈ S, (∃ e ∈ oj.after, Region.binds md e = true ∧ e.on = p) ∨ ∀ op, ops[p]? = some op → op.apart ops oj = true ∧ oj.apart ops op = true)) := by
  simp only [Region.setOk, Bool.and_eq_true, List.all_eq_true, List.mem_range] at h
  obtain ⟨h1, h2⟩ := h
  refine ⟨fun p hp => ⟨by simpa using (h1 p hp).1, (h1 p hp).2⟩, fun j oj hj hjS hun => ?_⟩
  have h3 := h2 j (Array.getElem?_eq_some_iff.1 hj).1
  have hjS' : S.contains j = false := by
    cases hc : S.contains j
    · rfl
    · exact absurd (List.contains_iff_mem.1 hc) hjS
  simp only [hj, hjS', hun, Bool.false_or, Bool.or_eq_true, Bool.and_eq_true, List.any_eq_true, Bool.not_eq_true', List.all_eq_true] at h3
  rcases h3 with h3 | h3
  · exact .inl h3
  · refine .inr ⟨h3.1, fun p hp => ?_⟩
    rcases h3.2 p hp with h4 | h4
    · obtain ⟨e, he, hb⟩ := Array.any_eq_true'.1 h4
      simp only [Bool.and_eq_true, beq_iff_eq] at hb
      exact .inl ⟨e, he, hb.1, hb.2⟩
    · refine .inr fun op hop => ?_
      simp only [hop, Bool.and_eq_true] at h4
      exact h4

theorem wpAnyM_tree (hsel : Region.noSelect ops = true) {m : Nat} (hcov : Cov md ops E z m) (hz : ops.size ≤ z) : ∀ (p : Plan) (listed : Array Bool) (a : Act) (w : World), C w → ClosedL md ops listed →
    (Region.treeB md ops E true p listed = true → wpTree P ops C Q p a w → ∀ f, p.depth ≤ f → wpAnyM P md ops C z E Q f listed a w) ∧
    (Region.treeB md ops E false p listed = true → (∀ k ∈ p.heads, k ∈ Region.ready md ops listed ∧ E.contains k = true) → wpTree P ops C Q p a w → ∀ f, p.depth ≤ f + 1 → ∀ k ∈ p.heads, mixOp P ops (Dz ops C z) E (Cl C E z (listed.setIfInBounds k true)) k (fun a' w' => Cl C E z (listed.setIfInBounds k true) w' → wpAnyM P md ops C z E Q f (listed.setIfInBounds k true) a' w') a w)
  | .done, listed, a, w, hw, hcl => by
    refine ⟨fun hB h f _ => ?_, fun hB => by simp [Region.treeB] at hB⟩
    have hr : Region.ready md ops listed = [] := by simpa [Region.treeB] using hB
    unfold wpTree at h
    cases f with
    | zero => exact ⟨hr, h⟩
    | succ f => exact ⟨fun _ => h, fun i hi => by rw [hr] at hi; cases hi⟩
  | .no, listed, a, w, hw, hcl => ⟨fun hB => by simp [Region.treeB] at hB, fun _ _ _ _ _ k hk => by simp [Plan.heads] at hk⟩
  | .q k p, listed, a, w, hw, hcl => by
    refine ⟨fun hB h f hf => ?_, fun hB => by simp [Region.treeB] at hB⟩
    simp only [Region.treeB, Bool.and_eq_true, Bool.not_eq_true'] at hB
    obtain ⟨⟨⟨hr, hE⟩, hfr⟩, hB'⟩ := hB
    have hr' : k ∈ Region.ready md ops listed := by simpa using hr
    unfold wpTree at h
    obtain ⟨o, ho, h⟩ := h
    have hks : k < z := Nat.lt_of_lt_of_le (Array.getElem?_eq_some_iff.1 ho).1 hz
    obtain ⟨f', rfl⟩ : ∃ f', f = f' + 1 := ⟨f - 1, by simp only [Plan.depth] at hf; omega⟩
    have ih := fun a => (wpAnyM_tree hsel hcov hz p (listed.setIfInBounds k true) a w hw (hcl.set hr')).1 hB'
    have hfd : p.depth ≤ f' := by simp only [Plan.depth] at hf; omega
    split at h
    · rename_i hwd
      obtain ⟨v, hy, hk⟩ := h
      have hy' : Yields P (Dz ops C z k) o a v := by
        cases hm : mvB ops k with
        | false => exact hy.dz hks hm
        | true =>
          unfold mvB at hm
          simp only [ho] at hm
          split at hm
          · rename_i x hx; exact hy.move hx hw
          · cases hm
      exact mix_quiet_first ho (Region.noSelect_spec hsel) hE f' listed a w (fun _ => hw) (Region.free_spec ho hfr) hr' (.inl ⟨hwd, hy'⟩) (ih _ hk f' hfd)
    · rename_i hwd
      exact mix_quiet_first ho (Region.noSelect_spec hsel) hE f' listed a w (fun _ => hw) (Region.free_spec ho hfr) hr' (.inr ⟨by simpa using hwd, rfl⟩) (ih _ h f' hfd)
  | .e k p r, listed, a, w, hw, hcl => by
    have key : Region.treeB md ops E true p (listed.setIfInBounds k true) = true → Region.treeB md ops E false r listed = true → (∀ j ∈ (Plan.e k p r).heads, j ∈ Region.ready md ops listed ∧ E.contains j = true) → wpTree P ops C Q (.e k p r) a w → ∀ f, (Plan.e k p r).depth ≤ f + 1 → ∀ j ∈ (Plan.e k p r).heads, mixOp P ops (Dz ops C z) E (Cl C E z (listed.setIfInBounds j true)) j (fun a' w' => Cl C E z (listed.setIfInBounds j true) w' → wpAnyM P md ops C z E Q f (listed.setIfInBounds j true) a' w') a w := by
      intro hB1 hB2 hh h f hf j hj
      unfold wpTree at h
      obtain ⟨⟨o, ho, h1⟩, h2⟩ := h
      simp only [Plan.depth] at hf
      rcases List.mem_cons.1 hj with rfl | hj
      · obtain ⟨hr', hE⟩ := hh j (by simp [Plan.heads])
        have ih := fun a w hw => (wpAnyM_tree hsel hcov hz p (listed.setIfInBounds j true) a w hw (hcl.set hr')).1 hB1
        have hfd : p.depth ≤ f := by omega
        unfold mixOp
        simp only [ho, hE, if_true]
        split at h1
        · rename_i hwd; rw [if_pos hwd]; exact wp_noQ_mono (fun a' w' hk => ⟨fun _ => hk.1, fun _ => ih a' w' hk.1 hk.2 f hfd⟩) h1
        · rename_i hwd; rw [if_neg hwd]; exact fun _ => ih _ _ hw h1 f hfd
      · exact (wpAnyM_tree hsel hcov hz r listed a w hw hcl).2 hB2 (fun i hi => hh i (by simp [Plan.heads, hi])) h2 f (by omega) j hj
    refine ⟨fun hB h f hf => ?_, fun hB hh h f hf => ?_⟩
    · simp only [Region.treeB, Bool.and_eq_true] at hB
      obtain ⟨⟨hs, hB1⟩, hB2⟩ := hB
      obtain ⟨s1, s2⟩ := setOk_spec hs
      obtain ⟨f', rfl⟩ : ∃ f', f = f' + 1 := ⟨f - 1, by simp only [Plan.depth] at hf; omega⟩
      refine mix_set_first (k :: r.heads) (by simp) hcov (Region.noSelect_spec hsel) (fun p hp => ⟨(s1 p hp).2, ?_⟩) f' listed a w (fun _ => hw) hcl s2 (fun p hp => (s1 p hp).1) (key hB1 hB2 s1 h f' hf)
      obtain ⟨_, o, ho, _⟩ := mem_ready.1 (s1 p hp).1
      exact ⟨o, ho⟩
    · simp only [Region.treeB, Bool.and_eq_true] at hB
      exact key hB.1 hB.2 hh h f hf

theorem wp_region_tree {id : Nat} {Q' : Exit → Act → World → Prop} {a : Act} {w : World} {l : List Oper} (C : World → Prop) (E : List Nat) (p : Plan) (hm : P.follows .mixedOrders = true)
    (hB : (Region.noSelect l.toArray && Region.covB .any l.toArray E l.toArray.size && Region.treeB .any l.toArray E true p (Array.replicate l.toArray.size false) && decide (p.depth ≤ l.length)) = true) (hC : C w.drew)
    (h : wpTree P l.toArray C (fun a' w' => Q' .normal a' w') p a w.drew) : (Code.region id l.toArray true).wp P Q' a w := by
  simp only [Bool.and_eq_true, decide_eq_true_eq] at hB
  obtain ⟨⟨⟨hB1, hB2⟩, hB3⟩, hB4⟩ := hB
  have hcov := covB_spec hB2
  have h0 : ∀ j, (Array.replicate l.toArray.size false).getD j false = false := fun j => by
    rw [Array.getD_eq_getD_getElem?, Array.getElem?_replicate]; split <;> rfl
  have hcl : ClosedL .any l.toArray (Array.replicate l.toArray.size false) := fun j oj _ hl => by rw [h0] at hl; cases hl
  refine wp_region_any hm (wpAny_of_mix (E := E) (z := l.toArray.size) (C := C) (Q := fun a' w' => Q' .normal a' w') (fun _ _ h => h) hcov _ _ _ _ (fun _ => hC) hcl ?_)
  exact (wpAnyM_tree hB1 hcov (Nat.le_refl _) p _ a w.drew hC hcl).1 hB3 h _ (by simpa using hB4)

theorem tree_q {k : Nat} {p : Plan} {a : Act} {w : World} {l r : List Oper} {o : Oper} (hk : l.drop k = o :: r) (hp : plainOp o.op = true) (h : wpQuiet P l.toArray C (fun a' => wpTree P l.toArray C Q p a' w) [o] a) : wpTree P l.toArray C Q (.q k p) a w := by
  have ho : l.toArray[k]? = some o := by
    have := congrArg (fun x => x[0]?) hk
    simpa using this
  unfold wpTree
  refine ⟨o, ho, ?_⟩
  simp only [wpQuiet] at h
  split
  · rename_i hw
    rw [if_pos hw] at h
    obtain ⟨v, hv, hn⟩ := h
    exact ⟨v, ⟨hp, hv⟩, hn⟩
  · rename_i hw
    rw [if_neg hw] at h
    exact h
/-- What stands behind one operation that changes the world. -/
def TreeQ (P : Program) (ops : Array Oper) (C : World → Prop) (Q : Act → World → Prop) (p : Plan) : Exit → Act → World → Prop
  | .normal, a, w => C w ∧ wpTree P ops C Q p a w
  | _, _, _ => False
theorem TreeQ.mk {p : Plan} {a : Act} {w : World} (h1 : C w) (h2 : wpTree P ops C Q p a w) : TreeQ P ops C Q p .normal a w := ⟨h1, h2⟩
theorem tree_e {k : Nat} {p r : Plan} {a : Act} {w : World} {l r' : List Oper} {o : Oper} (hk : l.drop k = o :: r') (h : wpList P l.toArray (TreeQ P l.toArray C Q p) [o] a w) (hr : wpTree P l.toArray C Q r a w) : wpTree P l.toArray C Q (.e k p r) a w := by
  have ho : l.toArray[k]? = some o := by
    have := congrArg (fun x => x[0]?) hk
    simpa using this
  unfold wpTree
  refine ⟨⟨o, ho, ?_⟩, hr⟩
  clear hr
  unfold wpList at h
  split
  · rename_i hw
    rw [if_pos hw] at h
    rcases h with h | ⟨_, _, _, h⟩
    · unfold Oper.wp at *
      generalize (execOp a.eval o).run P w = r at *
      cases r with
      | ok n w' =>
        cases n <;> simp only [Oper.upon, wpList] at h ⊢
        case value u => exact h
        case skip => exact h
        case defer d => exact h
        case enter f args =>
          refine h.mono fun e w'' he => ?_
          cases e with
          | returned v => exact he
          | panicked c => exact he.elim
          | outgrown => obtain ⟨_, _, hq⟩ := he; exact hq.elim
        case row r args => exact h
      | halt x w' => cases x <;> simp only [Oper.upon] at h ⊢; exact h.elim
    · exact h.elim
  · rename_i hw
    rw [if_neg hw] at h
    exact h.2
theorem tree_no {a : Act} {w : World} : wpTree P ops C Q .no a w := by unfold wpTree; trivial
theorem tree_done {a : Act} {w : World} (h : Q a w) : wpTree P ops C Q .done a w := by unfold wpTree; exact h
end
end M2
end Go.Proofs.YthljlajdkdgieaaDoor
