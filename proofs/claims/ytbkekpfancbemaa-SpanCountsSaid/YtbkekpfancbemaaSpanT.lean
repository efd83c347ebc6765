/- Spans, plain: what the calls' results hold: their times, that they are sound, how many times they are. -/
import Derived.Test.YtbkekpfancbemaaSpanE
namespace Go.Proofs.Ytbkekpfancbemaa
set_option linter.unusedVariables false
set_option linter.unusedSimpArgs false
open Go.RowKit

theorem hasS_iff {l : List Sp} {t : Int} : hasS l t = true ↔ inS t l := by
  unfold hasS inS; simp [List.any_eq_true]
theorem hasS_eq {l m : List Sp} {t : Int} (h : inS t l ↔ inS t m) : hasS l t = hasS m t := by
  rw [Bool.eq_iff_iff, hasS_iff, hasS_iff]; exact h
theorem turned_le (s : Sp) : (turned s).f ≤ (turned s).t := by unfold turned; simp only; split <;> split <;> omega

theorem setS_spec' : ∀ (l a : List Sp), (∀ x ∈ l, x.wf) → PW a → (∀ x ∈ a, x.wf) → PW (l.foldl (fun o x => addS o (turned x)) a) ∧ (∀ x ∈ l.foldl (fun o x => addS o (turned x)) a, x.wf) ∧
    ∀ t, inS t (l.foldl (fun o x => addS o (turned x)) a) ↔ inS t a ∨ inS t (l.map turned)
  | [], a, _, ha, hw => ⟨ha, hw, fun t => by simp [inS_nil]⟩
  | x :: l, a, hl, ha, hw => by
    obtain ⟨h1, h2⟩ := addS_spec ha (turned_le x)
    obtain ⟨k1, k2, k3⟩ := setS_spec' l (addS a (turned x)) (fun y hy => hl y (by simp [hy])) h1 (addS_wf hw (turned_wf (hl x (by simp))))
    refine ⟨k1, k2, fun t => ?_⟩
    simp only [List.foldl_cons, List.map_cons]
    rw [k3, h2, inS_cons, or_assoc]
theorem setS_spec {l : List Sp} (hl : ∀ x ∈ l, x.wf) : PW (setS l) ∧ (∀ x ∈ setS l, x.wf) ∧ ∀ t, inS t (setS l) ↔ inS t (l.map turned) := by
  obtain ⟨h1, h2, h3⟩ := setS_spec' l [] hl ⟨by simp, by simp⟩ (by simp)
  exact ⟨h1, h2, fun t => by rw [setS, h3, inS_nil, false_or]⟩
theorem setS_len (l : List Sp) : (setS l).length ≤ l.length := by
  suffices h : ∀ (l a : List Sp), (l.foldl (fun o x => addS o (turned x)) a).length ≤ a.length + l.length by simpa [setS] using h l []
  intro l
  induction l with
  | nil => simp
  | cons x l ih => intro a; simp only [List.foldl_cons, List.length_cons]; have := ih (addS a (turned x)); have := addS_len a (turned x); omega

theorem PW_flatMap {g : Sp → List Sp} : ∀ {l : List Sp}, PW l → (∀ x ∈ l, PW (g x) ∧ ∀ z ∈ g x, x.f ≤ z.f ∧ z.t ≤ x.t) → PW (l.flatMap g)
  | [], _, _ => ⟨by simp, by simp⟩
  | x :: l, h, hg => by
    obtain ⟨k1, k2⟩ := PW_flatMap (PW_tail h) (fun y hy => hg y (by simp [hy]))
    obtain ⟨g1, g2⟩ := hg x (by simp)
    rw [List.flatMap_cons]
    refine ⟨fun s hs => ?_, ?_⟩
    · rcases List.mem_append.1 hs with hs | hs
      · exact g1.1 s hs
      · exact k1 s hs
    · rw [List.pairwise_append]
      refine ⟨g1.2, k2, fun a ha b hb => ?_⟩
      obtain ⟨y, hy, hb⟩ := List.mem_flatMap.1 hb
      have h1 := (g2 a ha).2
      have h2 := ((hg y (by simp [hy])).2 b hb).1
      have h3 := (List.pairwise_cons.1 h.2).1 y hy
      omega
theorem inS_flatMap {g : Sp → List Sp} {l : List Sp} {t : Int} : inS t (l.flatMap g) ↔ ∃ x ∈ l, inS t (g x) := by
  unfold inS
  constructor
  · rintro ⟨s, hs, h⟩
    obtain ⟨x, hx, hs⟩ := List.mem_flatMap.1 hs
    exact ⟨x, hx, s, hs, h⟩
  · rintro ⟨x, hx, s, hs, h⟩
    exact ⟨s, List.mem_flatMap.2 ⟨x, hx, hs⟩, h⟩

theorem rdropOne_spec {s x : Sp} (hs : s.f ≤ s.t) (hx : x.f ≤ x.t) : (PW (rdropOne s x) ∧ ∀ z ∈ rdropOne s x, x.f ≤ z.f ∧ z.t ≤ x.t) ∧ ∀ t, inS t (rdropOne s x) ↔ (x.f ≤ t ∧ t ≤ x.t) ∧ ¬ (s.f ≤ t ∧ t ≤ s.t) := by
  unfold rdropOne
  split
  · rename_i h
    simp only [Bool.or_eq_true, decide_eq_true_eq] at h
    refine ⟨⟨⟨by simp; exact hx, by simp⟩, by simp⟩, fun t => ?_⟩
    simp only [inS_cons, inS_nil, or_false]; omega
  · rename_i h
    simp only [Bool.or_eq_true, decide_eq_true_eq] at h
    by_cases h1 : x.f < s.f <;> by_cases h2 : s.t < x.t
    · rw [if_pos h1, if_pos h2]
      refine ⟨⟨⟨by simp; omega, by simp; omega⟩, by simp; omega⟩, fun t => ?_⟩
      simp only [List.cons_append, List.nil_append]
      simp only [inS_cons, inS_nil, or_false]; omega
    · rw [if_pos h1, if_neg h2]
      refine ⟨⟨⟨by simp; omega, by simp⟩, by simp; omega⟩, fun t => ?_⟩
      simp only [List.append_nil]
      simp only [inS_cons, inS_nil, or_false]; omega
    · rw [if_neg h1, if_pos h2]
      refine ⟨⟨⟨by simp; omega, by simp⟩, by simp; omega⟩, fun t => ?_⟩
      simp only [List.nil_append]
      simp only [inS_cons, inS_nil, or_false]; omega
    · rw [if_neg h1, if_neg h2]
      refine ⟨⟨⟨by simp, by simp⟩, by simp⟩, fun t => ?_⟩
      simp only [List.nil_append]
      simp only [inS_nil, false_iff]; omega

theorem dropS_spec {l : List Sp} {s : Sp} (h : PW l) (hs : s.f ≤ s.t) : PW (dropS l s) ∧ ∀ t, inS t (dropS l s) ↔ inS t l ∧ ¬ (s.f ≤ t ∧ t ≤ s.t) := by
  have hok := okSp_iff.2 ⟨h, hs⟩
  rw [drop_same, rdropS, hok, if_pos rfl, rdropGo]
  refine ⟨PW_flatMap h fun x hx => (rdropOne_spec hs (h.1 x hx)).1, fun t => ?_⟩
  rw [inS_flatMap]
  constructor
  · rintro ⟨x, hx, ht⟩
    have := ((rdropOne_spec hs (h.1 x hx)).2 t).1 ht
    exact ⟨⟨x, hx, this.1⟩, this.2⟩
  · rintro ⟨⟨x, hx, ht⟩, hn⟩
    exact ⟨x, hx, ((rdropOne_spec hs (h.1 x hx)).2 t).2 ⟨ht, hn⟩⟩

theorem rdropOne_wf {s x : Sp} (hs : s.wf) (hx : x.wf) : ∀ z ∈ rdropOne s x, z.wf := by
  unfold Sp.wf at *
  unfold rdropOne
  split
  · simp; omega
  · intro z hz
    rcases List.mem_append.1 hz with hz | hz <;> split at hz <;> simp at hz <;> subst hz <;> simp only <;> omega
theorem dropS_wf {l : List Sp} {s : Sp} (hl : ∀ x ∈ l, x.wf) (hs : s.wf) : ∀ x ∈ dropS l s, x.wf := by
  rw [drop_same, rdropS]
  split
  · intro x hx
    obtain ⟨y, hy, hx⟩ := List.mem_flatMap.1 hx
    exact rdropOne_wf hs (hl y hy) x hx
  · simp

theorem meetPut_spec (x y : Sp) : (PW (meetPut x y []) ∧ ∀ z ∈ meetPut x y [], (x.f ≤ z.f ∧ z.t ≤ x.t) ∧ (y.f ≤ z.f ∧ z.t ≤ y.t)) ∧ ∀ t, inS t (meetPut x y []) ↔ (x.f ≤ t ∧ t ≤ x.t) ∧ (y.f ≤ t ∧ t ≤ y.t) := by
  unfold meetPut
  have hf : (meet2 x y).f = if x.f < y.f then y.f else x.f := rfl
  have ht : (meet2 x y).t = if y.t < x.t then y.t else x.t := rfl
  split
  · rename_i h
    rw [decide_eq_true_eq] at h
    refine ⟨⟨⟨by simpa using h, by simp⟩, ?_⟩, fun t => ?_⟩
    · intro z hz
      simp at hz; subst hz
      rw [hf, ht]; split <;> split <;> omega
    · simp only [List.nil_append]
      simp only [inS_cons, inS_nil, or_false, hf, ht]; split <;> split <;> omega
  · rename_i h
    rw [decide_eq_true_eq, hf, ht] at h
    refine ⟨⟨⟨by simp, by simp⟩, by simp⟩, fun t => ?_⟩
    simp only [inS_nil, false_iff]
    revert h; split <;> split <;> omega

theorem rmeetRow_spec (x : Sp) {b : List Sp} (h : PW b) : (PW (rmeetRow x b) ∧ ∀ z ∈ rmeetRow x b, x.f ≤ z.f ∧ z.t ≤ x.t) ∧ ∀ t, inS t (rmeetRow x b) ↔ (x.f ≤ t ∧ t ≤ x.t) ∧ inS t b := by
  unfold rmeetRow
  refine ⟨⟨PW_flatMap h fun y _ => ⟨(meetPut_spec x y).1.1, fun z hz => ((meetPut_spec x y).1.2 z hz).2⟩, fun z hz => ?_⟩, fun t => ?_⟩
  · obtain ⟨y, _, hz⟩ := List.mem_flatMap.1 hz
    exact ((meetPut_spec x y).1.2 z hz).1
  · rw [inS_flatMap]
    constructor
    · rintro ⟨y, hy, ht⟩
      have := ((meetPut_spec x y).2 t).1 ht
      exact ⟨this.1, y, hy, this.2⟩
    · rintro ⟨hx, y, hy, ht⟩
      exact ⟨y, hy, ((meetPut_spec x y).2 t).2 ⟨hx, ht⟩⟩

theorem meetS_spec {a b : List Sp} (ha : PW a) (hb : PW b) : PW (meetS a b) ∧ ∀ t, inS t (meetS a b) ↔ inS t a ∧ inS t b := by
  have e : (soundB a && soundB b) = true := by rw [(soundB_PW a).2 ha, (soundB_PW b).2 hb]; rfl
  rw [meet_same, rmeetS, e, if_pos rfl, rmeetGo]
  refine ⟨PW_flatMap ha fun x _ => (rmeetRow_spec x hb).1, fun t => ?_⟩
  rw [inS_flatMap]
  constructor
  · rintro ⟨x, hx, ht⟩
    have := ((rmeetRow_spec x hb).2 t).1 ht
    exact ⟨⟨x, hx, this.1⟩, this.2⟩
  · rintro ⟨⟨x, hx, ht⟩, h2⟩
    exact ⟨x, hx, ((rmeetRow_spec x hb).2 t).2 ⟨ht, h2⟩⟩

/-! ### How many times -/
def num (p : Int → Bool) (lo : Int) : Nat → Nat
  | 0 => 0
  | n + 1 => num p lo n + (p (lo + n)).toNat
theorem num_or (p q : Int → Bool) (lo : Int) : ∀ n, num (fun t => p t || q t) lo n + num (fun t => p t && q t) lo n = num p lo n + num q lo n
  | 0 => rfl
  | n + 1 => by
    have := num_or p q lo n
    simp only [num]
    cases p (lo + n) <;> cases q (lo + n) <;> simp only [Bool.or_true, Bool.or_false, Bool.and_true, Bool.and_false, Bool.toNat_true, Bool.toNat_false, Bool.true_or, Bool.true_and] <;> omega
theorem num_congr {p q : Int → Bool} (h : ∀ t, p t = q t) (lo : Int) : ∀ n, num p lo n = num q lo n
  | 0 => rfl
  | n + 1 => by simp only [num]; rw [num_congr h lo n, h]
theorem num_none (lo : Int) : ∀ n, num (fun _ => false) lo n = 0
  | 0 => rfl
  | n + 1 => by simp only [num]; rw [num_none lo n]; rfl
theorem num_span (s : Sp) (lo : Int) (h1 : lo ≤ s.f) : ∀ n : Nat, (num (fun t => decide (s.f ≤ t) && decide (t ≤ s.t)) lo n : Int) = max 0 (min (lo + n) (s.t + 1) - s.f)
  | 0 => by simp only [num]; omega
  | n + 1 => by
    have ih := num_span s lo h1 n
    simp only [num]
    by_cases ha : s.f ≤ lo + n <;> by_cases hb : lo + n ≤ s.t <;> simp only [ha, hb, decide_true, decide_false, Bool.and_true, Bool.and_false, Bool.toNat_true, Bool.toNat_false, Int.natCast_add, ih, Int.natCast_one, Int.natCast_zero] <;> omega

theorem cnt_num (lo : Int) (n : Nat) : ∀ (l : List Sp), PW l → (∀ s ∈ l, lo ≤ s.f ∧ s.t < lo + n) → cnt l = num (hasS l) lo n
  | [], _, _ => by
    have e : num (hasS []) lo n = 0 := by rw [num_congr (p := hasS []) (q := fun _ => false) (fun _ => rfl), num_none]
    rw [e]; rfl
  | x :: l, h, hb => by
    have ih := cnt_num lo n l (PW_tail h) (fun s hs => hb s (by simp [hs]))
    have hx := hb x (by simp)
    have hxt := h.1 x (by simp)
    have e1 := num_or (fun t => decide (x.f ≤ t) && decide (t ≤ x.t)) (hasS l) lo n
    have e2 : num (fun t => (decide (x.f ≤ t) && decide (t ≤ x.t)) && hasS l t) lo n = 0 := by
      rw [num_congr (p := fun t => (decide (x.f ≤ t) && decide (t ≤ x.t)) && hasS l t) (q := fun _ => false) ?_, num_none]
      intro t
      cases hc : (decide (x.f ≤ t) && decide (t ≤ x.t)) with
      | false => rfl
      | true =>
        rw [Bool.and_eq_true, decide_eq_true_eq, decide_eq_true_eq] at hc
        cases hl : hasS l t with
        | false => rfl
        | true =>
          obtain ⟨s, hs, h1, h2⟩ := hasS_iff.1 hl
          have := (List.pairwise_cons.1 h.2).1 s hs
          omega
    have e3 : num (hasS (x :: l)) lo n = num (fun t => (decide (x.f ≤ t) && decide (t ≤ x.t)) || hasS l t) lo n := num_congr (fun t => by simp [hasS]) lo n
    have e4 := num_span x lo hx.1 n
    rw [e3, cnt, ih]
    rw [e2] at e1
    omega

theorem bounds_all (l : List Sp) : ∃ (lo : Int) (n : Nat), ∀ s ∈ l, lo ≤ s.f ∧ s.t < lo + n := by
  induction l with
  | nil => exact ⟨0, 0, by simp⟩
  | cons x l ih =>
    obtain ⟨lo, n, h⟩ := ih
    refine ⟨min lo x.f, (max (lo + n) (x.t + 1) - min lo x.f).toNat, fun s hs => ?_⟩
    rcases List.mem_cons.1 hs with rfl | hs
    · omega
    · have := h s hs; omega

theorem cnt_both {a b m u : List Sp} (ha : PW a) (hb : PW b) (hm : PW m) (hu : PW u) (h1 : ∀ t, inS t m ↔ inS t a ∧ inS t b) (h2 : ∀ t, inS t u ↔ inS t a ∨ inS t b) : cnt a + cnt b = cnt m + cnt u := by
  obtain ⟨lo, n, h⟩ := bounds_all (a ++ b ++ m ++ u)
  rw [cnt_num lo n a ha (fun s hs => h s (by simp [hs])), cnt_num lo n b hb (fun s hs => h s (by simp [hs])), cnt_num lo n m hm (fun s hs => h s (by simp [hs])), cnt_num lo n u hu (fun s hs => h s (by simp [hs]))]
  have e := num_or (hasS a) (hasS b) lo n
  rw [num_congr (p := hasS m) (q := fun t => hasS a t && hasS b t) (fun t => by rw [Bool.eq_iff_iff, Bool.and_eq_true, hasS_iff, hasS_iff, hasS_iff]; exact h1 t),
    num_congr (p := hasS u) (q := fun t => hasS a t || hasS b t) (fun t => by rw [Bool.eq_iff_iff, Bool.or_eq_true, hasS_iff, hasS_iff, hasS_iff]; exact h2 t)]
  omega

theorem cntW_both {a b m u : List Sp} (h : cnt a + cnt b = cnt m + cnt u) : IntKind.u64.wrap (cntW a + cntW b) = IntKind.u64.wrap (cntW m + cntW u) := by
  unfold cntW; simp only [IntKind.wrap_u64]; omega

/-! ### The laws' own -/
theorem set_turn {l : List Sp} (hl : ∀ x ∈ l, x.wf) : setS l.reverse = setS l := by
  obtain ⟨a1, _, a3⟩ := setS_spec (l := l) hl
  obtain ⟨b1, _, b3⟩ := setS_spec (l := l.reverse) (fun x hx => hl x (by simpa using hx))
  refine PW_ext b1 a1 fun t => ?_
  rw [a3, b3]
  refine inS_perm (fun y => by simp) t
theorem set_in {l : List Sp} (hl : ∀ x ∈ l, x.wf) {x : Sp} (hx : x ∈ l) : addS (setS l) (turned x) = setS l := by
  obtain ⟨a1, _, a3⟩ := setS_spec (l := l) hl
  obtain ⟨b1, b2⟩ := addS_spec a1 (turned_le x)
  refine PW_ext b1 a1 fun t => ?_
  rw [b2]
  constructor
  · rintro (h | h)
    · exact h
    · rw [a3]; exact ⟨turned x, List.mem_map.2 ⟨x, hx, rfl⟩, h⟩
  · exact .inl
theorem turn_1 {l : List Sp} {s : Sp} (h : PW l) (hs : s.f ≤ s.t) : addS (dropS l s) s = addS l s := by
  obtain ⟨a1, a2⟩ := addS_spec h hs
  obtain ⟨d1, d2⟩ := dropS_spec h hs
  obtain ⟨b1, b2⟩ := addS_spec d1 hs
  refine PW_ext b1 a1 fun t => ?_
  rw [b2, a2, d2]
  by_cases hh : s.f ≤ t ∧ t ≤ s.t <;> simp [hh]
theorem turn_2 {l : List Sp} {s : Sp} (h : PW l) (hs : s.f ≤ s.t) : dropS (addS l s) s = dropS l s := by
  obtain ⟨a1, a2⟩ := addS_spec h hs
  obtain ⟨d1, d2⟩ := dropS_spec h hs
  obtain ⟨b1, b2⟩ := dropS_spec a1 hs
  refine PW_ext b1 d1 fun t => ?_
  rw [b2, a2, d2]
  by_cases hh : s.f ≤ t ∧ t ≤ s.t <;> simp [hh]
theorem turn_3 {l : List Sp} {s : Sp} (h : PW l) (hs : s.f ≤ s.t) : meetS (dropS l s) [s] = [] := by
  obtain ⟨d1, d2⟩ := dropS_spec h hs
  obtain ⟨b1, b2⟩ := meetS_spec d1 (b := [s]) ⟨by simpa using hs, by simp⟩
  refine PW_ext b1 ⟨by simp, by simp⟩ fun t => ?_
  rw [b2, d2, inS_cons, inS_nil]
  simp only [or_false, iff_false]
  rintro ⟨⟨_, h1⟩, h2⟩; exact h1 h2
/-- all of y added to x -/
def allS (x y : List Sp) : List Sp := y.foldl addS x
theorem allS_spec : ∀ (y x : List Sp), PW x → (∀ s ∈ x, s.wf) → (∀ s ∈ y, s.f ≤ s.t ∧ s.wf) → PW (allS x y) ∧ (∀ s ∈ allS x y, s.wf) ∧ ∀ t, inS t (allS x y) ↔ inS t x ∨ inS t y
  | [], x, hx, hw, _ => ⟨hx, hw, fun t => by simp [allS, inS_nil]⟩
  | s :: y, x, hx, hw, hy => by
    have hs := hy s (by simp)
    obtain ⟨h1, h2⟩ := addS_spec hx hs.1
    obtain ⟨k1, k2, k3⟩ := allS_spec y (addS x s) h1 (addS_wf hw hs.2) (fun z hz => hy z (by simp [hz]))
    refine ⟨k1, k2, fun t => ?_⟩
    have : allS x (s :: y) = allS (addS x s) y := rfl
    rw [this, k3, h2, inS_cons, or_assoc]
theorem allS_len (y : List Sp) : ∀ x : List Sp, (allS x y).length ≤ x.length + y.length := by
  induction y with
  | nil => intro x; simp [allS]
  | cons s y ih => intro x; have := ih (addS x s); have := addS_len x s; simp only [allS, List.foldl_cons, List.length_cons] at *; omega
end Go.Proofs.Ytbkekpfancbemaa
