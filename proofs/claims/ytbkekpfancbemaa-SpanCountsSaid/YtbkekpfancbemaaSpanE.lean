/- Spans, plain: lists that rise are told by their times; the program's calls compute what the reference's compute. -/
import Derived.Test.YtbkekpfancbemaaSpanQ
namespace Go.Proofs.Ytbkekpfancbemaa
set_option linter.unusedVariables false
set_option linter.unusedSimpArgs false
open Go.RowKit

/-- a time in one of the spans -/
def inS (x : Int) (l : List Sp) : Prop := ∃ s, s ∈ l ∧ s.f ≤ x ∧ x ≤ s.t
/-- rising, apart -/
def PW (l : List Sp) : Prop := (∀ s ∈ l, s.f ≤ s.t) ∧ l.Pairwise (fun a b => a.t + 1 < b.f)

theorem inS_nil (x : Int) : inS x [] ↔ False := by simp [inS]
theorem inS_cons (x : Int) (s : Sp) (l : List Sp) : inS x (s :: l) ↔ (s.f ≤ x ∧ x ≤ s.t) ∨ inS x l := by simp [inS, or_and_right, exists_or]
theorem inS_append (x : Int) (a b : List Sp) : inS x (a ++ b) ↔ inS x a ∨ inS x b := by simp [inS, or_and_right, exists_or]

theorem soundB_PW : ∀ l : List Sp, soundB l = true ↔ PW l
  | [] => by simp [soundB, PW]
  | [x] => by simp [soundB, PW]
  | x :: y :: l => by
    have ih := soundB_PW (y :: l)
    simp only [soundB, Bool.and_eq_true, decide_eq_true_eq, apartB] at ih ⊢
    constructor
    · rintro ⟨⟨h1, h2⟩, h3⟩
      obtain ⟨h4, h5⟩ := ih.1 h3
      refine ⟨?_, ?_⟩
      · intro s hs
        rcases List.mem_cons.1 hs with rfl | hs
        · exact h1
        · exact h4 s hs
      · rw [List.pairwise_cons]
        refine ⟨fun b hb => ?_, h5⟩
        rcases List.mem_cons.1 hb with rfl | hb
        · exact h2
        · have h6 := (List.pairwise_cons.1 h5).1 b hb
          have h7 := h4 y (by simp)
          omega
    · rintro ⟨h1, h2⟩
      rw [List.pairwise_cons] at h2
      exact ⟨⟨h1 x (by simp), h2.1 y (by simp)⟩, ih.2 ⟨fun s hs => h1 s (by simp [hs]), h2.2⟩⟩

theorem PW_ext : ∀ {a b : List Sp}, PW a → PW b → (∀ x, inS x a ↔ inS x b) → a = b
  | [], [], _, _, _ => rfl
  | [], y :: b, _, hb, h => by
    have := (h y.f).2 ⟨y, by simp, Int.le_refl _, hb.1 y (by simp)⟩
    rw [inS_nil] at this; exact this.elim
  | x :: a, [], ha, _, h => by
    have := (h x.f).1 ⟨x, by simp, Int.le_refl _, ha.1 x (by simp)⟩
    rw [inS_nil] at this; exact this.elim
  | x :: a, y :: b, ha, hb, h => by
    obtain ⟨ha1, ha2⟩ := ha
    obtain ⟨hb1, hb2⟩ := hb
    rw [List.pairwise_cons] at ha2 hb2
    have hx := ha1 x (by simp)
    have hy := hb1 y (by simp)
    have below : ∀ {z : Sp} {c : List Sp}, (∀ s ∈ c, z.t + 1 < s.f) → ∀ t, t ≤ z.t + 1 → ¬ inS t c := fun hz t ht ⟨s, hs, h1, _⟩ => by have := hz s hs; omega
    have e1 : x.f = y.f := by
      have h1 := (h x.f).1 ⟨x, by simp, Int.le_refl _, hx⟩
      have h2 := (h y.f).2 ⟨y, by simp, Int.le_refl _, hy⟩
      rw [inS_cons] at h1 h2
      have h1' : y.f ≤ x.f := by
        rcases h1 with h1 | ⟨s, hs, h3, _⟩
        · exact h1.1
        · have := hb2.1 s hs; omega
      have h2' : x.f ≤ y.f := by
        rcases h2 with h2 | ⟨s, hs, h3, _⟩
        · exact h2.1
        · have := ha2.1 s hs; omega
      omega
    have e2 : x.t = y.t := by
      rcases Int.lt_trichotomy x.t y.t with hlt | heq | hgt
      · have := (h (x.t + 1)).2 ⟨y, by simp, by omega, by omega⟩
        rw [inS_cons] at this
        rcases this with this | this
        · omega
        · exact absurd this (below ha2.1 _ (Int.le_refl _))
      · exact heq
      · have := (h (y.t + 1)).1 ⟨x, by simp, by omega, by omega⟩
        rw [inS_cons] at this
        rcases this with this | this
        · omega
        · exact absurd this (below hb2.1 _ (Int.le_refl _))
    have e : x = y := by cases x; cases y; simp at e1 e2; rw [e1, e2]
    subst e
    congr 1
    refine PW_ext ⟨fun s hs => ha1 s (by simp [hs]), ha2.2⟩ ⟨fun s hs => hb1 s (by simp [hs]), hb2.2⟩ fun t => ?_
    constructor
    · intro ht
      have hgt : x.t < t := by obtain ⟨s, hs, h1, _⟩ := ht; have := ha2.1 s hs; omega
      have := (h t).1 (by rw [inS_cons]; exact .inr ht)
      rw [inS_cons] at this
      rcases this with this | this
      · omega
      · exact this
    · intro ht
      have hgt : x.t < t := by obtain ⟨s, hs, h1, _⟩ := ht; have := hb2.1 s hs; omega
      have := (h t).2 (by rw [inS_cons]; exact .inr ht)
      rw [inS_cons] at this
      rcases this with this | this
      · omega
      · exact this

/-! ### Add -/

theorem addGo_spec : ∀ (l out : List Sp) (s : Sp), PW (out ++ l) → (∀ o ∈ out, o.t + 1 < s.f) → s.f ≤ s.t → PW (addGo l s out) ∧ ∀ x, inS x (addGo l s out) ↔ inS x out ∨ inS x l ∨ (s.f ≤ x ∧ x ≤ s.t)
  | [], out, s, h, ho, hs => by
    simp only [List.append_nil] at h
    refine ⟨⟨fun z hz => ?_, ?_⟩, fun x => ?_⟩
    · simp [addGo] at hz; rcases hz with hz | rfl
      · exact h.1 z hz
      · exact hs
    · simp only [addGo]; rw [List.pairwise_append]; exact ⟨h.2, by simp, fun a ha b hb => by simp at hb; subst hb; exact ho a ha⟩
    · simp only [addGo]; rw [inS_append, inS_cons, inS_nil]; simp
  | y :: l, out, s, h, ho, hs => by
    have hy := h.1 y (by simp)
    have hp := h.2
    rw [List.pairwise_append] at hp
    obtain ⟨p1, p2, p3⟩ := hp
    rw [List.pairwise_cons] at p2
    unfold addGo
    split
    · rename_i hc
      simp only [apartB, decide_eq_true_eq] at hc
      obtain ⟨q1, q2⟩ := addGo_spec l (out ++ [y]) s (by simpa using h) (fun o hoo => by simp at hoo; rcases hoo with hoo | rfl; exact ho o hoo; exact hc) hs
      refine ⟨q1, fun x => ?_⟩
      rw [q2, inS_append, inS_cons, inS_cons, inS_nil]
      simp only [or_false, false_or, or_assoc, or_comm, or_left_comm]
    · split
      · rename_i hc
        simp only [apartB, decide_eq_true_eq] at hc
        obtain ⟨q1, q2⟩ := addGo_spec l (out ++ [s]) y
          ⟨fun z hz => by
            simp at hz
            rcases hz with hz | rfl | hz
            · exact h.1 z (by simp [hz])
            · exact hs
            · exact h.1 z (by simp [hz]),
           by
            rw [List.append_assoc, List.singleton_append, List.pairwise_append, List.pairwise_cons]
            refine ⟨p1, ⟨fun b hb => ?_, p2.2⟩, fun a ha b hb => ?_⟩
            · have := p2.1 b hb; omega
            · rcases List.mem_cons.1 hb with rfl | hb
              · exact ho a ha
              · exact p3 a ha b (by simp [hb])⟩
          (fun o hoo => by simp at hoo; rcases hoo with hoo | rfl; exact p3 o hoo y (by simp); exact hc) hy
        refine ⟨q1, fun x => ?_⟩
        rw [q2, inS_append, inS_cons, inS_cons, inS_nil]
        simp only [or_false, false_or, or_assoc, or_comm, or_left_comm]
      · rename_i hc1 hc2
        simp only [apartB, decide_eq_true_eq] at hc1 hc2
        have hf : (mrg s y).f = if y.f < s.f then y.f else s.f := rfl
        have ht : (mrg s y).t = if s.t < y.t then y.t else s.t := rfl
        obtain ⟨q1, q2⟩ := addGo_spec l out (mrg s y)
          ⟨fun z hz => h.1 z (by simp at hz ⊢; rcases hz with hz | hz <;> simp [hz]), by
            rw [List.pairwise_append]
            exact ⟨p1, p2.2, fun a ha b hb => p3 a ha b (by simp [hb])⟩⟩
          (fun o hoo => by have h1 := ho o hoo; have h2 := p3 o hoo y (by simp); rw [hf]; split <;> omega)
          (by rw [hf, ht]; split <;> split <;> omega)
        refine ⟨q1, fun x => ?_⟩
        rw [q2, inS_cons, hf, ht]
        constructor
        · rintro (hh | hh | hh)
          · exact .inl hh
          · exact .inr (.inl (.inr hh))
          · rcases Classical.em (s.f ≤ x ∧ x ≤ s.t) with h1 | h1
            · exact .inr (.inr h1)
            · refine .inr (.inl (.inl ?_))
              revert hh; split <;> split <;> omega
        · rintro (hh | (hh | hh) | hh)
          · exact .inl hh
          · refine .inr (.inr ?_); split <;> split <;> omega
          · exact .inr (.inl hh)
          · refine .inr (.inr ?_); split <;> split <;> omega

theorem okSp_iff {l : List Sp} {s : Sp} : okSp l s = true ↔ PW l ∧ s.f ≤ s.t := by simp [okSp, soundB_PW]

theorem addS_spec {l : List Sp} {s : Sp} (h : PW l) (hs : s.f ≤ s.t) : PW (addS l s) ∧ ∀ x, inS x (addS l s) ↔ inS x l ∨ (s.f ≤ x ∧ x ≤ s.t) := by
  have hok := okSp_iff.2 ⟨h, hs⟩
  obtain ⟨h1, h2⟩ := addGo_spec l [] s (by simpa using h) (by simp) hs
  rw [addS, hok, if_pos rfl]
  refine ⟨h1, fun x => ?_⟩
  rw [h2, inS_nil]; simp

/-! ### The reference's: sorted, joined -/

theorem mem_insR {l : List Sp} {x y : Sp} : y ∈ insR l x ↔ y = x ∨ y ∈ l := by
  unfold insR
  simp only [List.mem_append, List.mem_singleton]
  have := List.take_append_drop (rankR l x) l
  constructor
  · rintro ((h | h) | h)
    · exact .inr (List.mem_of_mem_take h)
    · exact .inl h
    · exact .inr (List.mem_of_mem_drop h)
  · rintro (h | h)
    · exact .inl (.inr h)
    · rw [← this, List.mem_append] at h
      rcases h with h | h
      · exact .inl (.inl h)
      · exact .inr h

def UpF (l : List Sp) : Prop := l.Pairwise (fun a b => a.f ≤ b.f)

theorem mem_tw {p : Sp → Bool} : ∀ {l : List Sp} {y : Sp}, y ∈ l.takeWhile p → p y = true
  | [], _, h => by simp at h
  | x :: l, y, h => by
    rw [List.takeWhile_cons] at h
    split at h
    · rename_i hp
      rcases List.mem_cons.1 h with rfl | h
      · exact hp
      · exact mem_tw h
    · cases h
theorem dw_head {p : Sp → Bool} : ∀ {l : List Sp} {z : Sp} {r : List Sp}, l.dropWhile p = z :: r → p z = false
  | [], _, _, h => by simp at h
  | x :: l, z, r, h => by
    rw [List.dropWhile_cons] at h
    split at h
    · exact dw_head h
    · rename_i hp
      injection h with h1 _
      rw [← h1]; simpa using hp

theorem insR_up {l : List Sp} {x : Sp} (h : UpF l) : UpF (insR l x) := by
  have hsplit := List.take_append_drop (rankR l x) l
  have htw : l.take (rankR l x) = l.takeWhile (fun y => decide (y.f ≤ x.f)) := by
    have := List.takeWhile_append_dropWhile (p := fun y : Sp => decide (y.f ≤ x.f)) (l := l)
    unfold rankR
    conv => lhs; arg 2; rw [← this]
    rw [List.take_left]
  have hdw : l.drop (rankR l x) = l.dropWhile (fun y => decide (y.f ≤ x.f)) := by
    have := List.takeWhile_append_dropWhile (p := fun y : Sp => decide (y.f ≤ x.f)) (l := l)
    unfold rankR
    conv => lhs; arg 2; rw [← this]
    rw [List.drop_left]
  have hu : UpF (l.take (rankR l x) ++ l.drop (rankR l x)) := by rw [hsplit]; exact h
  unfold UpF at *
  rw [List.pairwise_append] at hu
  obtain ⟨h1, h2, h3⟩ := hu
  unfold insR
  rw [List.append_assoc, List.pairwise_append, List.singleton_append, List.pairwise_cons]
  have ht : ∀ y ∈ l.take (rankR l x), y.f ≤ x.f := fun y hy => by
    rw [htw] at hy
    simpa using mem_tw hy
  have hd : ∀ y ∈ l.drop (rankR l x), x.f ≤ y.f := by
    intro y hy
    rw [hdw] at hy h2
    cases hdl : l.dropWhile (fun y => decide (y.f ≤ x.f)) with
    | nil => rw [hdl] at hy; cases hy
    | cons z r =>
      have hz : ¬ (z.f ≤ x.f) := by
        simpa using dw_head hdl
      rw [hdl] at hy h2
      rcases List.mem_cons.1 hy with rfl | hy
      · omega
      · have := (List.pairwise_cons.1 h2).1 y hy; omega
  refine ⟨h1, ⟨hd, h2⟩, fun a ha b hb => ?_⟩
  rcases List.mem_cons.1 hb with rfl | hb
  · exact ht a ha
  · exact h3 a ha b hb

theorem sortR_spec (l : List Sp) : UpF (sortR l) ∧ ∀ y, y ∈ sortR l ↔ y ∈ l := by
  suffices h : ∀ (l a : List Sp), UpF a → UpF (l.foldl insR a) ∧ ∀ y, y ∈ l.foldl insR a ↔ y ∈ l ∨ y ∈ a by
    obtain ⟨h1, h2⟩ := h l [] (by simp [UpF])
    exact ⟨h1, fun y => by rw [sortR, h2]; simp⟩
  intro l
  induction l with
  | nil => intro a ha; exact ⟨ha, fun y => by simp⟩
  | cons x l ih =>
    intro a ha
    obtain ⟨h1, h2⟩ := ih (insR a x) (insR_up ha)
    refine ⟨h1, fun y => ?_⟩
    simp only [List.foldl_cons]
    rw [h2, mem_insR, List.mem_cons]
    constructor
    · rintro (h | h | h)
      · exact .inl (.inr h)
      · exact .inl (.inl h)
      · exact .inr h
    · rintro ((h | h) | h)
      · exact .inr (.inl h)
      · exact .inl h
      · exact .inr (.inr h)

theorem joinPut_nil (x : Sp) : joinPut [] x = [x] := rfl
theorem joinPut_snoc (o : List Sp) (z x : Sp) : joinPut (o ++ [z]) x = if touchR z x then o ++ [⟨z.f, if z.t < x.t then x.t else z.t⟩] else o ++ [z] ++ [x] := by
  unfold joinPut
  rw [dif_pos (by simp)]
  have e : (o ++ [z]).length - 1 = o.length := by simp
  have g : (o ++ [z])[(o ++ [z]).length - 1]'(by simp) = z := by simp
  rw [g]
  split
  · rw [e, List.set_append_right _ _ (Nat.le_refl _)]; simp
  · rfl

theorem touchR_iff {z x : Sp} (hz : z.wf) (hx : x.wf) : touchR z x = true ↔ x.f ≤ z.t + 1 := by
  unfold touchR Sp.wf at *
  simp only [Bool.or_eq_true, decide_eq_true_eq, beq_iff_eq]
  by_cases h : z.t < 9223372036854775807
  · rw [IntWalk.wrap64_in _ ⟨by omega, by omega⟩]; omega
  · constructor
    · intro _; omega
    · intro _; left; omega

theorem joinFold_spec : ∀ (l out : List Sp), UpF l → (∀ x ∈ l, x.f ≤ x.t ∧ x.wf) → PW out → (∀ o ∈ out, o.wf) → (∀ o ∈ out, ∀ x ∈ l, o.f ≤ x.f) →
    PW (l.foldl joinPut out) ∧ ∀ t, inS t (l.foldl joinPut out) ↔ inS t out ∨ inS t l
  | [], out, _, _, ho, _, _ => ⟨ho, fun t => by simp [inS_nil]⟩
  | x :: l, out, hu, hl, ho, how, hle => by
    have hx := hl x (by simp)
    have hu' := List.pairwise_cons.1 hu
    have key : PW (joinPut out x) ∧ (∀ o ∈ joinPut out x, o.wf) ∧ (∀ o ∈ joinPut out x, ∀ y ∈ l, o.f ≤ y.f) ∧ ∀ t, inS t (joinPut out x) ↔ inS t out ∨ (x.f ≤ t ∧ t ≤ x.t) := by
      rcases List.eq_nil_or_concat out with rfl | ⟨o, z, rfl⟩
      · rw [joinPut_nil]
        exact ⟨⟨by simp; exact hx.1, by simp⟩, by simp; exact hx.2, by simp; exact hu'.1, fun t => by simp [inS]⟩
      · simp only [List.concat_eq_append] at ho how hle ⊢
        rw [joinPut_snoc]
        have hz := how z (by simp)
        have hzt := ho.1 z (by simp)
        have hzx := hle z (by simp) x (by simp)
        have hp := ho.2
        rw [List.pairwise_append] at hp
        split
        · rename_i ht
          have ht := (touchR_iff hz hx.2).1 ht
          refine ⟨⟨fun s hs => ?_, ?_⟩, fun s hs => ?_, fun s hs y hy => ?_, fun t => ?_⟩
          · simp at hs; rcases hs with hs | rfl
            · exact ho.1 s (by simp [hs])
            · simp only; split <;> omega
          · rw [List.pairwise_append]
            refine ⟨hp.1, by simp, fun a ha b hb => ?_⟩
            simp at hb; subst hb
            exact hp.2.2 a ha z (by simp)
          · simp at hs; rcases hs with hs | rfl
            · exact how s (by simp [hs])
            · have hx2 := hx.2; unfold Sp.wf at *; simp only; split <;> omega
          · simp at hs; rcases hs with hs | rfl
            · exact hle s (by simp [hs]) y (by simp [hy])
            · exact hle z (by simp) y (by simp [hy])
          · rw [inS_append, inS_append, inS_cons, inS_cons, inS_nil]
            simp only [or_false]
            constructor
            · rintro (h | h)
              · exact .inl (.inl h)
              · rcases Classical.em (z.f ≤ t ∧ t ≤ z.t) with h1 | h1
                · exact .inl (.inr h1)
                · refine .inr ?_; revert h; split <;> omega
            · rintro ((h | h) | h)
              · exact .inl h
              · refine .inr ?_; split <;> omega
              · refine .inr ?_; split <;> omega
        · rename_i ht
          have ht : ¬ x.f ≤ z.t + 1 := fun h => ht ((touchR_iff hz hx.2).2 h)
          refine ⟨⟨fun s hs => ?_, ?_⟩, fun s hs => ?_, fun s hs y hy => ?_, fun t => ?_⟩
          · simp at hs; rcases hs with hs | rfl | rfl
            · exact ho.1 s (by simp [hs])
            · exact hzt
            · exact hx.1
          · rw [List.pairwise_append]
            refine ⟨ho.2, by simp, fun a ha b hb => ?_⟩
            simp at hb; subst hb
            simp at ha
            rcases ha with ha | rfl
            · have := hp.2.2 a ha z (by simp); omega
            · omega
          · simp at hs; rcases hs with hs | rfl | rfl
            · exact how s (by simp [hs])
            · exact hz
            · exact hx.2
          · simp at hs; rcases hs with hs | rfl | rfl
            · exact hle s (by simp [hs]) y (by simp [hy])
            · exact hle s (by simp) y (by simp [hy])
            · exact hu'.1 y hy
          · rw [inS_append, inS_cons, inS_nil, or_false]
    obtain ⟨k1, k2, k3, k4⟩ := key
    obtain ⟨g1, g2⟩ := joinFold_spec l (joinPut out x) hu'.2 (fun y hy => hl y (by simp [hy])) k1 k2 k3
    refine ⟨g1, fun t => ?_⟩
    simp only [List.foldl_cons]
    rw [g2, k4, inS_cons, or_assoc]

theorem inS_perm {a b : List Sp} (h : ∀ y, y ∈ a ↔ y ∈ b) (t : Int) : inS t a ↔ inS t b := by
  constructor <;> rintro ⟨s, hs, h1⟩
  · exact ⟨s, (h s).1 hs, h1⟩
  · exact ⟨s, (h s).2 hs, h1⟩

theorem add_same {l : List Sp} {s : Sp} (hl : ∀ x ∈ l, x.wf) (hs : s.wf) : addS l s = raddS l s := by
  cases h : okSp l s with
  | false => simp [addS, raddS, h]
  | true =>
    obtain ⟨h1, h2⟩ := okSp_iff.1 h
    obtain ⟨a1, a2⟩ := addS_spec h1 h2
    have hall : ∀ x ∈ sortR (l ++ [s]), x.f ≤ x.t ∧ x.wf := fun x hx => by
      rw [(sortR_spec _).2] at hx
      simp at hx
      rcases hx with hx | rfl
      · exact ⟨h1.1 x hx, hl x hx⟩
      · exact ⟨h2, hs⟩
    obtain ⟨b1, b2⟩ := joinFold_spec (sortR (l ++ [s])) [] (sortR_spec _).1 hall ⟨by simp, by simp⟩ (by simp) (by simp)
    have e : raddS l s = (sortR (l ++ [s])).foldl joinPut [] := by rw [raddS, h, if_pos rfl]; rfl
    rw [e]
    refine PW_ext a1 b1 fun t => ?_
    rw [a2, b2, inS_nil, false_or, inS_perm (sortR_spec _).2, inS_append, inS_cons, inS_nil, or_false]

/-! ### Drop, Meet -/

theorem PW_tail {x : Sp} {l : List Sp} (h : PW (x :: l)) : PW l := ⟨fun s hs => h.1 s (by simp [hs]), (List.pairwise_cons.1 h.2).2⟩

theorem drop_same' (s : Sp) : ∀ (l : List Sp), PW l → l.take (findS l s.f) ++ dropGo s (l.drop (findS l s.f)) = rdropGo s l
  | [], _ => rfl
  | x :: l, h => by
    have hall : ∀ (l : List Sp), (∀ y ∈ l, ¬ y.t < s.f) → dropGo s l = rdropGo s l := by
      intro l hl
      unfold dropGo rdropGo
      rw [List.flatMap_def, List.flatMap_def]
      congr 1
      refine List.map_congr_left fun y hy => ?_
      have := hl y hy
      unfold dropOne rdropOne
      simp [this]
    by_cases hx : x.t < s.f
    · have e : findS (x :: l) s.f = findS l s.f + 1 := by simp [findS, List.takeWhile_cons, hx]
      rw [e, List.take_succ_cons, List.drop_succ_cons, List.cons_append, drop_same' s l (PW_tail h)]
      have : rdropOne s x = [x] := rdropOne_0 (by simp [hx])
      simp [rdropGo, this]
    · have e : findS (x :: l) s.f = 0 := by simp [findS, List.takeWhile_cons, hx]
      rw [e, List.take_zero, List.drop_zero, List.nil_append]
      refine hall _ fun y hy => ?_
      rcases List.mem_cons.1 hy with rfl | hy
      · exact hx
      · have h1 := (List.pairwise_cons.1 h.2).1 y hy
        have h2 := h.1 y (by simp [hy])
        have h3 := h.1 x (by simp)
        omega

theorem drop_same {l : List Sp} {s : Sp} : dropS l s = rdropS l s := by
  cases h : okSp l s with
  | false => simp [dropS, rdropS, h]
  | true => rw [dropS, rdropS, h, if_pos rfl, if_pos rfl, drop_same' s l (okSp_iff.1 h).1]

theorem meetPut_none {x y : Sp} (h : x.t < y.f ∨ y.t < x.f) (hx : x.f ≤ x.t) (hy : y.f ≤ y.t) : meetPut x y [] = [] := by
  refine meetPut_no (decide_eq_false ?_)
  unfold meet2
  simp only
  split <;> split <;> omega

theorem rmeetRow_none {x : Sp} {l : List Sp} (h : ∀ y ∈ l, meetPut x y [] = []) : rmeetRow x l = [] := by
  unfold rmeetRow
  rw [List.flatMap_eq_nil_iff]; exact h

theorem meetGo_same : ∀ (n : Nat) (a b out : List Sp), a.length + b.length ≤ n → PW a → PW b → meetGo n a b out = out ++ rmeetGo a b
  | n, [], b, out, _, _, _ => by cases n <;> cases b <;> simp [meetGo, rmeetGo]
  | n, x :: a, [], out, _, _, _ => by
    have : rmeetGo (x :: a) [] = [] := by simp [rmeetGo, rmeetRow]
    cases n <;> simp [meetGo, this]
  | 0, x :: a, y :: b, _, h, _, _ => by simp at h
  | n + 1, x :: a, y :: b, out, h, ha, hb => by
    have hx := ha.1 x (by simp)
    have hy := hb.1 y (by simp)
    have hxa := (List.pairwise_cons.1 ha.2).1
    have hyb := (List.pairwise_cons.1 hb.2).1
    unfold meetGo
    split
    · rename_i hlt
      have hlt := of_decide_eq_true hlt
      rw [meetGo_same n a (y :: b) _ (by simp at h ⊢; omega) (PW_tail ha) hb, meetPut_app, List.append_assoc]
      congr 1
      have : rmeetRow x b = [] := rmeetRow_none fun z hz => meetPut_none (.inl (by have := hyb z hz; omega)) hx (hb.1 z (by simp [hz]))
      have e : rmeetRow x (y :: b) = meetPut x y [] := by
        show meetPut x y [] ++ rmeetRow x b = _
        rw [this, List.append_nil]
      show _ = rmeetRow x (y :: b) ++ rmeetGo a (y :: b)
      rw [e]
    · rename_i hge
      have hge : ¬ x.t < y.t := by simpa using hge
      rw [meetGo_same n (x :: a) b _ (by simp at h ⊢; omega) ha (PW_tail hb), meetPut_app, List.append_assoc]
      congr 1
      show meetPut x y [] ++ (rmeetRow x b ++ rmeetGo a b) = (meetPut x y [] ++ rmeetRow x b) ++ rmeetGo a (y :: b)
      rw [List.append_assoc]
      congr 2
      unfold rmeetGo
      rw [List.flatMap_def, List.flatMap_def]
      congr 1
      refine List.map_congr_left fun z hz => ?_
      show rmeetRow z b = meetPut z y [] ++ rmeetRow z b
      rw [meetPut_none (.inr (by have := hxa z hz; omega)) (ha.1 z (by simp [hz])) hy, List.nil_append]

theorem meet_same {a b : List Sp} : meetS a b = rmeetS a b := by
  cases h : (soundB a && soundB b) with
  | false => simp [meetS, rmeetS, h]
  | true =>
    have h' := h
    rw [Bool.and_eq_true] at h'
    rw [meetS, rmeetS, h, if_pos rfl, if_pos rfl, meetGo_same _ a b [] (Nat.le_refl _) ((soundB_PW a).1 h'.1) ((soundB_PW b).1 h'.2), List.nil_append]

theorem dropS_len (l : List Sp) (s : Sp) : (dropS l s).length ≤ 3 * l.length := by
  unfold dropS
  split
  · have := dropGo_len (s := s) (l.drop (findS l s.f))
    simp only [List.length_append, List.length_take, List.length_drop] at *
    omega
  · simp
end Go.Proofs.Ytbkekpfancbemaa
