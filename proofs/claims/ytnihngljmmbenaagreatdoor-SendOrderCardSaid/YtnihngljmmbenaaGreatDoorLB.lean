import Derived.Test.YtnihngljmmbenaaGreatDoorHB
import Derived.Maps.RangeRun
import Derived.Laws.IdiomRangeMap
import Derived.Test.YtnihngljmmbenaaGreatDoorNE
import Derived.Test.YtnihngljmmbenaaGreatDoorGA
import Derived.Test.YtnihngljmmbenaaGreatDoorChecked
import Derived.Deep.Cut
import Derived.Test.YtnihngljmmbenaaGreatDoorLA
import Derived.Sort.OwnSorted
import Derived.Test.YtnihngljmmbenaaGreatDoorHD
namespace Go.Proofs.YtnihngljmmbenaaGreatDoor
set_option linter.unusedVariables false
set_option linter.unusedSimpArgs false
section
open Go.RowKit Go.ChangeMaps

def RngAt (w : World) (b r : Nat) (m : List (Nat × Value)) (seen : List Nat) : Prop :=
  b ≠ r ∧ seen.Nodup ∧ (∀ i ∈ seen, i < m.length) ∧ ∃ (es : Array MapEntry) (clock : Nat) (sn : Array Nat), w.heap[b]? = some (.map es clock) ∧ es.toList.map (fun e => (e.key, e.val)) = (m.map fun x => (Value.int .u32 (x.1 : Nat), x.2)) ∧ (es.toList.map (·.born)).Nodup ∧ (∀ e ∈ es.toList, e.born < clock) ∧
    w.heap[r]? = some (.mapIter (some b) clock sn clock) ∧ sn.toList = seen.map (fun i => (es.toList[i]!).born)
theorem RngAt.map {w : World} {b r : Nat} {m : List (Nat × Value)} {seen : List Nat} (h : RngAt w b r m seen) : MapAt w b m := by
  obtain ⟨_, _, _, es, clock, sn, hb, he, hn, hbo, _, _⟩ := h
  exact ⟨es, clock, hb, he, hn, hbo⟩
theorem RngAt.lt {w : World} {b r : Nat} {m : List (Nat × Value)} {seen : List Nat} (h : RngAt w b r m seen) : r < w.heap.size := by
  obtain ⟨_, _, _, es, clock, sn, _, _, _, _, hr, _⟩ := h
  exact (Array.getElem?_eq_some_iff.1 hr).1
theorem RngAt.chg {w w' : World} {b r : Nat} {m : List (Nat × Value)} {seen : List Nat} {F : List Nat} (h : RngAt w b r m seen) (hc : Chg F w w') (hb' : b ∉ F) (hr' : r ∉ F) : RngAt w' b r m seen := by
  have h1 := h.map.lt
  have h2 := h.lt
  obtain ⟨a1, a2, a3, es, clock, sn, hb, he, hn, hbo, hr, hs⟩ := h
  exact ⟨a1, a2, a3, es, clock, sn, (hc.block b h1 hb').trans hb, he, hn, hbo, (hc.block r h2 hr').trans hr, hs⟩
section
variable {P : Program}
theorem rng_start {t k e : TypeId} (ht : P.underlying t = some (.map k e)) {w : World} {b : Nat} {m : List (Nat × Value)} (h : MapAt w b m) :
    ∃ o, (Instr.range t (.map (some b))).run P w = .ok (.pointer (some ⟨w.heap.size, 0, none⟩)) (w.alloc o) ∧ RngAt (w.alloc o) b w.heap.size m [] := by
  have hl := h.lt
  obtain ⟨es, clock, hb, he, hn, hbo⟩ := h
  refine ⟨_, run_range_map w t k e b es clock ht hb, by omega, List.nodup_nil, by simp, es, clock, #[], ?_, he, hn, hbo, heap_alloc_new w _, rfl⟩
  exact (heap_alloc_old w _ hl).trans hb
theorem rng_next {w : World} {b r : Nat} {m : List (Nat × Value)} {seen : List Nat} (h : RngAt w b r m seen) (ty : TypeId) :
    ((∀ i, i < m.length → i ∈ seen) ∧ (Instr.next (.pointer (some ⟨r, 0, none⟩)) false ty).run P w = .ok (.tuple #[.bool false]) w) ∨
    ∃ i, ∃ hi : i < m.length, i ∉ seen ∧ ∃ w', (Instr.next (.pointer (some ⟨r, 0, none⟩)) false ty).run P w = .ok (.tuple #[.bool true, .int .u32 (m[i].1 : Nat), m[i].2]) w' ∧ RngAt w' b r m (seen ++ [i]) ∧ Chg [r] w w' ∧ (Instr.entry (.pointer (some ⟨r, 0, none⟩))).run P w' = .ok (.tuple #[.int .u32 (m[i].1 : Nat), m[i].2]) w' := by
  obtain ⟨hne, hnd, hlt, es, clock, sn, hb, he, hn, hbo, hr, hs⟩ := h
  have hlen : es.toList.length = m.length := by simpa using congrArg List.length he
  have hinj : ∀ i j, (hi : i < m.length) → (hj : j < m.length) → (es.toList[i]!).born = (es.toList[j]!).born → i = j := by
    intro i j hi hj hij
    have hi2 : i < (es.toList.map (·.born)).length := by rw [List.length_map]; omega
    have hj2 : j < (es.toList.map (·.born)).length := by rw [List.length_map]; omega
    have hi3 : i < es.toList.length := by omega
    have hj3 : j < es.toList.length := by omega
    rw [getElem!_pos _ i hi3, getElem!_pos _ j hj3] at hij
    rcases Nat.lt_trichotomy i j with h1 | h1 | h1
    · exact absurd (by simpa using hij) ((List.pairwise_iff_getElem.1 hn) i j hi2 hj2 h1)
    · exact h1
    · exact absurd (by simpa using hij.symm) ((List.pairwise_iff_getElem.1 hn) j i hj2 hi2 h1)
  rcases run_next_at (P := P) w ty r b clock clock sn es clock hr hb hbo (Nat.le_refl _) with ⟨h0, hrun⟩ | ⟨e, hel, w1, hw1, hrun⟩
  · refine .inl ⟨fun i hi => ?_, hrun⟩
    have hi3 : i < es.toList.length := by omega
    have h1 := all_seen es sn h0 es.toList[i] (List.getElem_mem hi3)
    rw [Array.contains_iff_mem, ← Array.mem_toList_iff, hs] at h1
    obtain ⟨j, hj, hjb⟩ := List.mem_map.1 h1
    have : j = i := hinj j i (hlt j hj) hi (by rw [getElem!_pos _ i hi3]; exact hjb)
    rw [← this]; exact hj
  · obtain ⟨hem, hes⟩ := mem_left hel
    obtain ⟨i, hi3, hie⟩ := List.getElem_of_mem hem
    have hi : i < m.length := by omega
    have hkv : e.key = .int .u32 (m[i].1 : Nat) ∧ e.val = m[i].2 := by
      have h1 := congrArg (fun l => l[i]?) he
      simp only [List.getElem?_map, List.getElem?_eq_getElem hi, List.getElem?_eq_getElem hi3, Option.map_some, Option.some.injEq, Prod.mk.injEq, hie] at h1
      exact h1
    have hns : i ∉ seen := fun hm => by
      have h1 : sn.contains e.born = true := by
        rw [Array.contains_iff_mem, ← Array.mem_toList_iff, hs]
        exact List.mem_map.2 ⟨i, hm, by rw [getElem!_pos _ i hi3, hie]⟩
      rw [hes] at h1; cases h1
    refine .inr ⟨i, hi, hns, _, by rw [hkv.1, hkv.2] at hrun; exact hrun, ?_, ?_, ?_⟩
    · have hr1 : w1.heap[r]? = some (.mapIter (some b) clock sn clock) := by rcases hw1 with rfl | rfl <;> exact hr
      have hb1 : w1.heap[b]? = some (.map es clock) := by rcases hw1 with rfl | rfl <;> exact hb
      have hset := MapKept.heap_set (o' := .mapIter (some b) clock (sn.push e.born) clock) hr1
      refine ⟨hne, ?_, ?_, es, clock, sn.push e.born, (hset.2 b hne).trans hb1, he, hn, hbo, hset.1, ?_⟩
      · exact List.nodup_append.2 ⟨hnd, by simp, fun a ha b hb => by simp at hb; subst hb; exact fun h => hns (h ▸ ha)⟩
      · intro j hj
        rcases List.mem_append.1 hj with h1 | h1
        · exact hlt j h1
        · simp at h1; subst h1; exact hi
      · rw [Array.toList_push, hs, List.map_append]
        simp only [List.map_cons, List.map_nil]
        rw [getElem!_pos _ i hi3, hie]
    · refine ⟨?_, ?_, ?_, ?_, fun k hk hkn => ?_⟩
      · rcases hw1 with rfl | rfl <;> rfl
      · rcases hw1 with rfl | rfl <;> rfl
      · rcases hw1 with rfl | rfl <;> rfl
      · rcases hw1 with rfl | rfl <;> simp [setBlock]
      · have hkr : k ≠ r := by simpa using hkn
        rcases hw1 with rfl | rfl <;> (simp [setBlock, Array.getElem?_setIfInBounds, Ne.symm hkr]; try rfl)
    · have hr1 : w1.heap[r]? = some (.mapIter (some b) clock sn clock) := by rcases hw1 with rfl | rfl <;> exact hr
      have hb1 : w1.heap[b]? = some (.map es clock) := by rcases hw1 with rfl | rfl <;> exact hb
      have hset := MapKept.heap_set (o' := .mapIter (some b) clock (sn.push e.born) clock) hr1
      have hen := run_entry_at (P := P) (setBlock w1 r (.mapIter (some b) clock (sn.push e.born) clock)) r b clock sn es clock e hset.1 ((hset.2 b hne).trans hb1) hem hn
      rw [hkv.1, hkv.2] at hen
      exact hen
theorem rng_next' {w : World} {b r : Nat} {m : List (Nat × Value)} {seen : List Nat} (h : RngAt w b r m seen) :
    ((∀ i, i < m.length → i ∈ seen) ∧ ∀ ty, (Instr.next (.pointer (some ⟨r, 0, none⟩)) false ty).run P w = .ok (.tuple #[.bool false]) w) ∨
    ∃ i, ∃ hi : i < m.length, i ∉ seen ∧ ∃ mt, (∀ ty, (Instr.next (.pointer (some ⟨r, 0, none⟩)) false ty).run P w = .ok (.tuple #[.bool true, .int .u32 (m[i].1 : Nat), m[i].2]) (chg [r] w mt)) ∧ RngAt (chg [r] w mt) b r m (seen ++ [i]) ∧ (Instr.entry (.pointer (some ⟨r, 0, none⟩))).run P (chg [r] w mt) = .ok (.tuple #[.int .u32 (m[i].1 : Nat), m[i].2]) (chg [r] w mt) := by
  rcases rng_next (P := P) h 0 with ⟨h1, hrun⟩ | ⟨i, hi, hns, w', hrun, h1, h2, h3⟩
  · exact .inl ⟨h1, fun ty => hrun⟩
  · obtain ⟨mt, rfl⟩ := chg_of h2
    exact .inr ⟨i, hi, hns, mt, fun ty => hrun, h1, h3⟩
end
theorem seen_perm {m : List (Nat × Value)} {seen : List Nat} (hnd : seen.Nodup) (hlt : ∀ i ∈ seen, i < m.length) (hall : ∀ i, i < m.length → i ∈ seen) : (seen.map (fun i => (m[i]!).1)).Perm (m.map (·.1)) := by
  have h1 : seen.Perm (List.range m.length) := by
    refine (List.perm_ext_iff_of_nodup hnd List.nodup_range).2 (fun i => ?_)
    rw [List.mem_range]
    exact ⟨hlt i, hall i⟩
  have h2 := h1.map (fun i => (m[i]!).1)
  have h3 : (List.range m.length).map (fun i => (m[i]!).1) = m.map (·.1) := by
    apply List.ext_getElem
    · simp
    · intro i h4 h5
      simp at h4 h5
      simp [h4]
  rw [h3] at h2
  exact h2
theorem nodup_len : ∀ (l m : List Nat), l.Nodup → (∀ i ∈ l, i ∈ m) → l.length ≤ m.length
  | [], m, _, _ => Nat.zero_le _
  | a :: l, m, hn, h => by
    have ha : a ∈ m := h a (by simp)
    have hn' := List.nodup_cons.1 hn
    have ih := nodup_len l (m.erase a) hn'.2 (fun i hi => (List.mem_erase_of_ne (by rintro rfl; exact hn'.1 hi)).2 (h i (by simp [hi])))
    rw [List.length_erase_of_mem ha] at ih
    have : 0 < m.length := List.length_pos_of_mem ha
    simp; omega
def rngLeft (w : World) (r n : Nat) : Nat := match w.heap[r]? with
  | some (.mapIter _ _ sn _) => n - sn.size
  | _ => 0
theorem RngAt.left_eq {w : World} {b r : Nat} {m : List (Nat × Value)} {seen : List Nat} (h : RngAt w b r m seen) (n : Nat) : rngLeft w r n = n - seen.length := by
  obtain ⟨_, _, _, es, clock, sn, _, _, _, _, hr, hs⟩ := h
  unfold rngLeft
  rw [hr]
  simp only
  have := congrArg List.length hs
  rw [Array.length_toList, List.length_map] at this
  rw [this]
theorem RngAt.len_le {w : World} {b r : Nat} {m : List (Nat × Value)} {seen : List Nat} (h : RngAt w b r m seen) : seen.length ≤ m.length := by
  have h1 := nodup_len seen (List.range m.length) h.2.1 (fun i hi => List.mem_range.2 (h.2.2.1 i hi))
  simpa using h1
end
section
open Go.RowKit
section
variable {P : Program}
theorem wp_rangeFunc_set {g : Operand} {ps : Array Tmp} {assign body : Code} {Q : Exit → Act → World → Prop} {a : Act} {w : World} {gf : Nat} {la lb : Array Value}
    (hg : a.eval g = .func (.func gf) la lb) (eg : ∀ args w, (callFunc gf args).run P w = .ok (.enter gf args) w)
    (N : Nat) (vals : Nat → Array Value) (hps : ∀ k, (vals k).size = ps.size) (K : List Nat) (hK : ∀ k ∈ K, k < w.heap.size)
    (I : List Nat → World → Prop)
    (hI : ∀ s A B, I s A → Chg [w.heap.size + 2, w.heap.size, w.heap.size + 1] A B → I s B)
    (h0 : I [] w)
    (hiter : ∀ (J : List Nat → World → Prop) (l : Nat) (W : World), W.heap.size = w.heap.size + 2 → Chg [] w W → (∀ s A B, J s A → Chg [w.heap.size + 2] A B → J s B) → (∀ s A, J s A → I s A) →
      (∀ s i W1, i < N → i ∉ s → J s W1 → w.heap.size + 2 < W1.heap.size → YieldAt Fence.wide 0 P l (vals i) W1 fun e W' => e = .returned (.bool true) ∧ J (s ++ [i]) W' ∧ ∃ G, Chg G W1 W' ∧ w.heap.size + 2 ∉ G ∧ ∀ k ∈ K, k ∉ G) →
      J [] W → Calls P gf (la ++ #[.func (.yield l) #[] #[]] ++ lb) W (fun e W' => (∃ v, e = .returned v) ∧ ∃ s, J s W' ∧ s.Nodup ∧ (∀ i ∈ s, i < N) ∧ ∀ i, i < N → i ∈ s))
    (hround : ∀ (l : Nat) (s : List Nat) (i : Nat) (W : World), i < N → i ∉ s → I s W → w.heap.size + 2 < W.heap.size → assign.wpIn (Fence.wide.inRound l) 0 P (Exit.then (fun a1 w1 => (∃ G, Chg G W w1 ∧ w.heap.size + 2 ∉ G ∧ w.heap.size ∉ G ∧ w.heap.size + 1 ∉ G ∧ ∀ k ∈ K, k ∉ G) ∧
        ∀ w2, Chg [w.heap.size + 1] w1 w2 → w.heap.size + 2 < w2.heap.size → body.wpIn (Fence.wide.inRound l) 0 P (fun e _ W' => e = .normal ∧ I (s ++ [i]) W' ∧ ∃ G, Chg G w2 W' ∧ w.heap.size + 2 ∉ G ∧ w.heap.size ∉ G ∧ w.heap.size + 1 ∉ G ∧ ∀ k ∈ K, k ∉ G) a1 w2) (fun _ _ _ => False))
      { tmps := (ps.zip (vals i)).foldl (fun t (p, v) => t.setIfInBounds p v) a.tmps, defers := [] } W)
    (hdone : ∀ (s : List Nat) (W : World), I s W → s.Nodup → (∀ i ∈ s, i < N) → (∀ i, i < N → i ∈ s) → w.heap.size < W.heap.size → W.heap[w.heap.size]? = some (.deferred (some [])) → Q .normal { a with defers := { target := .collected w.heap.size, args := #[] } :: a.defers } W) :
    (Code.rangeFunc g ps assign body).wp P Q a w := by
  refine wpIn_wide.1 (wpIn_rangeFunc (n := 1) ?_)
  intro fn hfn
  obtain ⟨rec, hrec⟩ : ∃ rec : LoopState → Option Code → Loop, rec = fun st pe => { state := st, pending := pe, fn, tmps := a.tmps, params := ps, assign, body, defers := w.heap.size } := ⟨_, rfl⟩
  obtain ⟨W1, hW1⟩ : ∃ W1, (w.alloc (.deferred (some []))).alloc (.loop (rec .ready none)) = W1 := ⟨_, rfl⟩
  have hL1 : W1.heap[w.heap.size + 1]? = some (.loop (rec .ready none)) := by
    rw [← hW1]; have := World.alloc_heap_new (w.alloc (.deferred (some []))) (.loop (rec .ready none)); rwa [World.size_alloc] at this
  have hK1 : W1.heap[w.heap.size]? = some (.deferred (some [])) := by
    rw [← hW1]; exact (Below.heap_alloc _ _ _ (by simp)).trans (World.alloc_heap_new w _)
  have hch1 : ∀ F, Chg F w W1 := fun F => by rw [← hW1]; exact Chg.alloc (Chg.alloc (Chg.refl _ _) _) _
  have hI1 : I [] W1 := hI [] _ _ h0 (hch1 _)
  have hs1 : W1.heap.size = w.heap.size + 2 := by rw [← hW1]; simp
  refine ⟨w.heap.size + 1, [{ target := .collected w.heap.size, args := #[] }], W1, { target := .fn (.func gf) lb, args := la ++ #[.func (.yield (w.heap.size + 1)) #[] #[]] }, W1, gf,
    la ++ #[.func (.yield (w.heap.size + 1)) #[] #[]] ++ lb, W1, ?_, ?_, ?_, ?_, fun _ => Nat.le_refl _, ?_⟩
  · rw [← hW1, hrec]; exact run_enterLoop_outer _ _ _ _ _
  · simp only [resolve, hg]
    simp [go_sem]
  · intro f' hf'; trivial
  · simp [invoke, go_sem, eg]
  · refine (callsIn_wide (n := 0)).2 ((hiter (fun s W => I s W ∧ W.heap[w.heap.size + 1]? = some (.loop (rec .ready none)) ∧ W.heap[w.heap.size]? = some (.deferred (some [])) ∧ w.heap.size + 2 ≤ W.heap.size) (w.heap.size + 1) W1 hs1 (hch1 []) ?_ (fun _ _ h => h.1) ?_ ⟨hI1, hL1, hK1, by omega⟩).mono ?_)
    · rintro s A B ⟨hi, hl, hk, hs⟩ hc
      exact ⟨hI s A B hi (hc.mono (fun i hi => .inl (by simp at hi; simp [hi]))), (hc.block _ (by omega) (by simp)).trans hl, (hc.block _ (by omega) (by simp)).trans hk, Nat.le_trans hs hc.size⟩
    · rintro s i W hiN his ⟨hi, hl, hk, hs⟩ hbig
      have hy := run_yield (P := P) (args := vals i) hl (by rw [hrec]; exact hps i)
      rw [hrec] at hy
      refine ⟨fn, _, assign, body, hy, roundIn_of_wpIn hfn ?_⟩
      refine wpIn_mono (hround (w.heap.size + 1) s i W hiN his hi hbig) ?_
      intro e a1 w1 hq
      cases e with
      | normal =>
        obtain ⟨⟨G, hG, hGp, hGd, hGl, hGK⟩, hbody⟩ := hq
        have hl1 : w1.heap[w.heap.size + 1]? = some (.loop (rec .ready none)) := (hG.block _ (by omega) hGl).trans hl
        have hk1 : w1.heap[w.heap.size]? = some (.deferred (some [])) := (hG.block _ (by omega) hGd).trans hk
        have hs1' : w.heap.size + 2 < w1.heap.size := Nat.lt_of_lt_of_le hbig hG.size
        refine ⟨_, run_beginRound hl1 (by rw [hrec]), ?_⟩
        have hc2 := chg_putObj w1 (w.heap.size + 1) (.loop { rec .ready none with state := .busy }) (F := [w.heap.size + 1]) (by simp)
        have hl2 : (w1.putObj (w.heap.size + 1) (.loop { rec .ready none with state := .busy })).heap[w.heap.size + 1]? = some (.loop { rec .ready none with state := .busy }) := World.putObj_heap_same (by omega)
        have hk2 : (w1.putObj (w.heap.size + 1) (.loop { rec .ready none with state := .busy })).heap[w.heap.size]? = some (.deferred (some [])) := (World.putObj_heap_other (by omega)).trans hk1
        have hs2 : w.heap.size + 2 < (w1.putObj (w.heap.size + 1) (.loop { rec .ready none with state := .busy })).heap.size := Nat.lt_of_lt_of_le hs1' hc2.size
        generalize w1.putObj (w.heap.size + 1) (.loop { rec .ready none with state := .busy }) = w2 at *
        refine wpIn_mono (hbody w2 hc2 hs2) ?_
        rintro e a3 W3 ⟨rfl, hi3, G3, hG3, hp3, hd3, hl3, hK3⟩
        have hl4 : W3.heap[w.heap.size + 1]? = some (.loop { rec .ready none with state := .busy }) := (hG3.block _ (by omega) hl3).trans hl2
        have hk4 : W3.heap[w.heap.size]? = some (.deferred (some [])) := (hG3.block _ (by omega) hd3).trans hk2
        have hs4 : w.heap.size + 2 ≤ W3.heap.size := Nat.le_trans (Nat.le_of_lt hs2) hG3.size
        have hend := run_endRound (P := P) none hl4
        refine ⟨_, _, hend, rfl, ⟨hI _ _ _ hi3 (chg_putObj _ _ _ (by simp)), ?_, (World.putObj_heap_other (by omega)).trans hk4, by simpa using hs4⟩, (G ++ [w.heap.size + 1]) ++ (G3 ++ [w.heap.size + 1]), ?_, ?_, ?_⟩
        · rw [World.putObj_heap_same (by omega), hrec]
          rfl
        · have c1 : Chg (G ++ [w.heap.size + 1] ++ (G3 ++ [w.heap.size + 1])) W w1 := hG.mono (fun k hk => .inl (by simp [hk]))
          have c2 : Chg (G ++ [w.heap.size + 1] ++ (G3 ++ [w.heap.size + 1])) w1 w2 := hc2.mono (fun k hk => .inl (by simp at hk; simp [hk]))
          have c3 : Chg (G ++ [w.heap.size + 1] ++ (G3 ++ [w.heap.size + 1])) w2 W3 := hG3.mono (fun k hk => .inl (by simp [hk]))
          exact Chg.trans (Chg.trans (Chg.trans c1 c2) c3) (chg_putObj _ _ _ (by simp))
        · intro hm
          simp at hm
          rcases hm with h | h
          · exact hGp h
          · exact hp3 h
        · intro k hk2 hm
          have := hK k hk2
          simp at hm
          rcases hm with h | h | h | h
          · exact hGK k hk2 h
          · omega
          · exact hK3 k hk2 h
          · omega
      | ret => exact hq.elim
      | exit id => exact hq.elim
      | goto t => exact hq.elim
      | panic ch => exact hq.elim
      | outgrown => exact hq.elim
    · rintro e W2 ⟨⟨v, rfl⟩, s, ⟨hi, hl, hk, hs⟩, hnd, hlt, hall⟩
      refine ⟨none, _, by have := run_endLoop (P := P) hl (by rw [hrec]; simp); rw [hrec] at this; exact this, ?_⟩
      exact hdone s _ (hI _ _ _ hi (chg_putObj _ _ _ (by simp))) hnd hlt hall (by simp; omega) ((World.putObj_heap_other (by omega)).trans hk)
end
end
section
open Go.RowKit
attribute [local go_sem] over_drew chg_drew

theorem keys_res (tmps : Array Value) (w : World) : (results Tryz.f86 tmps).run Tryz.prog w = .ok (.tuple #[]) w := by
  simp [results, show Tryz.f86.results = #[] from rfl, go_sem]
set_option maxRecDepth 100000 in
set_option maxHeartbeats 4000000 in
theorem keys_iter (m : List (Nat × Value)) (mb pm p l : Nat) (J : List Nat → World → Prop) (W : World) (hW : W.heap.size = p) (hmb : mb < p) (hpm : pm < p)
    (hJ : ∀ s A B, J s A → Chg [p] A B → J s B) (hM : MapAt W mb m) (hP : Blk W pm [.map (some mb)] 109)
    (hy : ∀ s i W1, (hi : i < m.length) → i ∉ s → J s W1 → p < W1.heap.size → YieldAt Fence.wide 0 Tryz.prog l #[.int .u32 (m[i].1 : Nat)] W1 fun e W' => e = .returned (.bool true) ∧ J (s ++ [i]) W' ∧ ∃ G, Chg G W1 W' ∧ p ∉ G ∧ mb ∉ G)
    (h0 : J [] W) :
    Calls Tryz.prog 86 #[.func (.yield l) #[] #[], .pointer (some ⟨pm, 0, none⟩)] W (fun e W' => (∃ v, e = .returned v) ∧ ∃ s, J s W' ∧ s.Nodup ∧ (∀ i ∈ s, i < m.length) ∧ ∀ i, i < m.length → i ∈ s) := by
  obtain ⟨o, hrun, hR0⟩ := rng_start (P := Tryz.prog) (t := 109) (k := 24) (e := 110) (by kernel_rfl) hM
  rw [hW] at hR0 hrun
  have c0 := hP.cell 0 rfl
  have cl := hP.lt
  have HJ := hid hJ
  have HY := hid hy
  have H0 := hid h0
  have HR0 := hid hR0
  clear hJ hy h0 hR0 hM hP
  go_enter Tryz.func86, Tryz.ntmps86
  go_wp2
  go_loopw [3] (fun _ wr => ∃ s, RngAt wr mb p m s ∧ J s wr) (fun _ wr => rngLeft wr p m.length)
  case atStart => exact ⟨[], HR0.out, HJ.out _ _ _ H0.out (Chg.alloc (Chg.refl _ _) _)⟩
  case round =>
    obtain ⟨s, hR, hj⟩ := hrel
    have hle := hR.left_eq m.length
    rcases rng_next' (P := Tryz.prog) hR with ⟨hall, hrun2⟩ | ⟨i, hi, hns, mt, hrun2, hR2, hen⟩
    · have HS := hid (And.intro hj (And.intro hR.2.1 (And.intro hR.2.2.1 hall)))
      clear hR hj hall hrun c0 cl hle
      go_wp2
      refine ⟨rfl, _, keys_res _ _, ⟨_, rfl⟩, s, HS.out⟩
    · obtain ⟨W2, hW2⟩ : ∃ W2, W2 = chg [p] wr mt := ⟨_, rfl⟩
      have J2 : Hid (J s W2) := hid (HJ.out _ _ _ hj (by rw [hW2]; exact chg_chg _ _ _))
      rw [← hW2] at hrun2 hR2 hen
      have R2 := hid hR2
      have hp2 := hR2.lt
      have HLE := hid hle
      have HY2 := hid (HY.out s i W2 hi hns J2.out hp2)
      obtain ⟨kk, hkk⟩ : ∃ k, m[i].1 = k := ⟨_, rfl⟩
      obtain ⟨vv, hvv⟩ : ∃ v, m[i].2 = v := ⟨_, rfl⟩
      rw [hkk] at hrun2 hen HY2
      rw [hvv] at hrun2 hen
      clear hR hj hrun c0 cl hle hW2 hR2 hkk hvv hns hi
      go_upto_region 3 with (fail)
      obtain ⟨fn, tmps, assign, body, hy, hR3⟩ := HY2.out
      rw [← wpIn_wide (n := 1)]
      gi_wp2
      refine hR3.mono ?_
      rintro e W6 ⟨rfl, hj6, G, hG, hGp, hGm⟩
      have J6 := hid hj6
      have R6 := hid (RngAt.chg R2.out hG hGm hGp)
      clear hj6 hG hGp hGm hR3 hy
      gi_wp2
      go_wp2
      go_roundw
      case rel => exact ⟨s ++ [i], R6.out, J6.out⟩
      case measure =>
        have h1 := R6.out.left_eq m.length
        have h2 := R6.out.len_le
        rw [h1, HLE.out]
        rw [List.length_append] at *
        simp at *
        omega
end
section
open Go.Sort Go.RowKit
theorem calleesU : CalleesU where
  ins := srt_insertionSort
  brk := srt_breakPatterns
  piv := srt_choosePivot
  par := srt_partialInsertionSort
  peq := srt_partitionEqualOrdered
  prt := srt_partitionOrdered
theorem plain13U : Plain13 where
  swo := swo_ltInt
  ins := insertionSort_holds
  par := partialInsertionSort_holds
  prt := partition_holds _
  peq := partitionEqual_holds _
  pdq := pdq_sorts _
theorem pdqWalkU_ok : pdqWalkU := fun blk off cap a b limit d w hH hb hab hbd hsz hl hB =>
  srt_pdqsort calleesU plain13U (b - a + 1) blk off cap a b limit d w (by omega) hH hb hab hbd hsz hl hB
theorem srt_eq (zs : List Int) : Sort.sort ltInt zs.toArray = (zs.mergeSort fun x y => decide (x ≤ y)).toArray := by
  rw [← sortInt zs]

def wcs (n : Nat) : List Value := [.int .u32 (n : Nat)]
theorem wcs_len (n : Nat) : (wcs n).length = 1 := rfl
theorem wcs_one (n : Nat) : ∀ u ∈ wcs n, u.oneCell' = true := by intro u hu; simp [wcs] at hu; subst hu; rfl
theorem u32_elem : ElemOf Tryz.prog 39 24 1 4 := elemOf (z := .int .u32 0) (by kernel_rfl) (by kernel_rfl) rfl (by decide)
abbrev OwnW (base : Nat) (w : World) (v : Value) (l : List Nat) : Prop := Own base 24 1 wcs w v l
abbrev SlW (w : World) (a : Option Addr) (cap : Nat) (xs : List Nat) : Prop := Sl 1 wcs w a cap xs
def srtN (l : List Nat) : List Nat := l.mergeSort fun x y => decide (x ≤ y)
theorem srtN_len (l : List Nat) : (srtN l).length = l.length := List.length_mergeSort ..
theorem srtN_perm (l : List Nat) : (srtN l).Perm l := List.mergeSort_perm ..
theorem srtN_map (l : List Nat) : (l.map fun n : Nat => (n : Int)).mergeSort (fun x y => decide (x ≤ y)) = (srtN l).map fun n : Nat => (n : Int) := by
  unfold srtN
  rw [List.map_mergeSort]
  intro a _ b _
  simp
theorem wflat (l : List Nat) : flat wcs l = l.map fun n => Value.int .u32 (n : Nat) := by
  induction l with
  | nil => rfl
  | cons a l ih => show wcs a ++ flat wcs l = _; rw [ih]; rfl

theorem sort_own {base : Nat} {w : World} {v : Value} {l : List Nat} (h : OwnW base w v l) (hl : l.length < 4611686018427387904) :
    Calls Tryz.prog 85 #[v] w (fun e w' => e = .returned (.tuple #[]) ∧ Chg v.ownBlock.toList w w' ∧ OwnW base w' v (srtN l)) := by
  have h' := h
  obtain ⟨h1, h2⟩ := h
  rcases h2 with ⟨rfl, h0⟩ | ⟨g, cap, cur, rfl, hb, hg, hnc, hcm, hcs, htake⟩
  · have : l = [] := List.eq_nil_of_length_eq_zero h0
    subst this
    refine (srt_Sort_nil none 0 w).mono ?_
    rintro e w' ⟨rfl, rfl⟩
    rw [show srtN [] = [] by simp [srtN]]; exact ⟨rfl, Chg.refl _ _, Own.nil _⟩
  · have hgl : g < w.heap.size := (Array.getElem?_eq_some_iff.1 hg).1
    have hH : Holds encU w g 0 (l.map fun n : Nat => (n : Int)).toArray := by
      intro j hj
      have hj' : j < l.length := by simpa using hj
      refine ⟨?_, by simp [World.frozen?, hg]⟩
      have e1 : (cur.toList.take (l.length * 1))[j]? = (flat wcs l)[j]? := by rw [htake]
      rw [List.getElem?_take_of_lt (by omega), wflat] at e1
      simp only [World.cell?, hg, Nat.zero_add]
      simp only [Option.isSome_none, Bool.false_eq_true, if_false]
      rw [← Array.getElem?_toList, e1]
      simp [hj', encU]
    have hs := srt_Sort pdqWalkU_ok g 0 cap _ w hH hgl (by simpa using hl)
    rw [srt_eq, srtN_map] at hs
    simp only [List.size_toArray, List.length_map] at hs
    refine hs.mono ?_
    rintro e w' ⟨rfl, n, os, rfl⟩
    have hblk : (grow (putRow encU (Sort.ahead w n) g 0 ((srtN l).map fun n : Nat => (n : Int)).toArray) os).heap[g]? = some (.cells (putCells encU 0 ((srtN l).map fun n : Nat => (n : Int)).toArray cur) 24 (0, 0)) := by
      rw [heap_grow_old _ _ (by simpa using hgl)]
      simp [putRow, mapBlock, Sort.ahead, Array.getElem?_modify, hg, onCells]
    refine ⟨rfl, ⟨rfl, rfl, rfl, by simp, fun k hk hne => ?_⟩, ?_, .inr ⟨g, cap, _, by rw [srtN_len], hb, hblk, by rw [srtN_len]; exact hnc, hcm, by simp [putCells, hcs], ?_⟩⟩
    · rw [heap_grow_old _ _ (by simpa using hk)]
      have : g ≠ k := fun e => hne (by subst e; simp [Value.ownBlock])
      simp [putRow, mapBlock, Sort.ahead, Array.getElem?_modify, this]
    · rw [wflat]; simp
    · rw [wflat, srtN_len, Nat.mul_one]
      have hsz : l.length ≤ cur.size := by omega
      have hll := srtN_len l
      apply List.ext_getElem?
      intro j
      by_cases hj : j < l.length
      · rw [List.getElem?_take_of_lt hj, Array.getElem?_toList]
        simp [putCells, encU, hll, hj, show j < cur.size by omega]
      · rw [List.getElem?_take_eq_none (by omega), List.getElem?_eq_none (by simp [hll]; omega)]
end
section
open Go.RowKit
attribute [local go_sem] over_drew chg_drew

theorem foldW (p : Tmp) (v : Value) (t : Array Value) : (Array.zip #[p] #[v]).foldl (fun t x => match x with | (p, v) => t.setIfInBounds p v) t = t.setIfInBounds p v := by simp
theorem run_keys (args : Array Value) (w : World) : (callFunc 86 args).run Tryz.prog w = .ok (.enter 86 args) w := run_enter Tryz.func86 (by kernel_rfl) rfl args w
def keyAt (m : List (Nat × Value)) (i : Nat) : Nat := (m[i]!).1
theorem keyAt_eq {m : List (Nat × Value)} {i : Nat} (h : i < m.length) : keyAt m i = m[i].1 := by simp [keyAt, h]
structure ApI (w : World) (b base : Nat) (m : List (Nat × Value)) (s : List Nat) (W : World) : Prop where
  ov : ∃ e, W = over w e
  bx : ∃ v, Blk W b [v] 39 ∧ OwnW base W v (s.map (keyAt m))
  nd : s.Nodup ∧ ∀ i ∈ s, i < m.length
def KsRes (w : World) (m : List (Nat × Value)) (en : Ending) (w' : World) : Prop :=
  (∃ e, w' = over w e) ∧ ∃ v ks, en = .returned v ∧ ks.Perm (m.map (·.1)) ∧ OwnW w.heap.size w' v ks
set_option maxRecDepth 100000 in
set_option maxHeartbeats 8000000 in
theorem appendSeq_keys {m : List (Nat × Value)} {mb pm : Nat} (w : World) (hM : MapAt w mb m) (hP : Blk w pm [.map (some mb)] 109) (hml : m.length ≤ 1000000) (h32 : ∀ x ∈ m, x.1 < 4294967296) :
    Calls Tryz.prog 121 #[.slice none 0 0, .func (.func 86) #[] #[.pointer (some ⟨pm, 0, none⟩)]] w (KsRes w m) := by
  refine calls_of_marks Tryz.func121 rfl ?_
  simp only [Tryz.ntmps121, List.size_toArray, List.length_cons, List.length_nil, Nat.reduceAdd, Nat.reduceSub, Array.replicate_succ, Array.replicate_zero, List.push_toArray, List.append_toArray, List.nil_append, List.cons_append]
  go_wp2_with fail
  refine gen_w ?_
  intro W0 hW0
  have hmbl := hM.lt
  have hpml := hP.lt
  have O0 : Hid (∃ e, W0 = over w e) := hid (by rw [hW0]; exact ovA)
  have M0 : Hid (MapAt W0 mb m) := hid (by rw [hW0]; exact MapAt.chg hM (Chg.alloc (Chg.refl [] w) _) (by simp))
  have P0 : Hid (Blk W0 pm [.map (some mb)] 109) := hid (by rw [hW0]; exact Blk.alloc hP _)
  have B0 : Hid (Blk W0 w.heap.size [.slice none 0 0] 39) := hid (by rw [hW0]; exact Blk.new' (by simp))
  have hs0 : W0.heap.size = w.heap.size + 1 := by rw [hW0]; simp
  clear hW0 hM hP
  refine wp_rangeFunc_set (gf := 86) (la := #[]) (lb := #[.pointer (some ⟨pm, 0, none⟩)]) rfl (fun _ _ => run_keys _ _) m.length (fun i => #[.int .u32 (keyAt m i : Nat)]) (fun _ => rfl) [mb, pm] (by simp; omega)
    (ApI w w.heap.size (W0.heap.size + 3) m) ?_ ?_ ?_ ?_ ?_
  · rintro s A B ⟨hov, ⟨v, h1, h2⟩, hnd⟩ hc
    exact ⟨Chg.ov hov hc (by simp; omega), ⟨v, Blk.chg h1 hc (by simp; omega), Own.chg h2 hc (fun g hg => by have := (Own.lt h2 hg).1; simp; omega)⟩, hnd⟩
  · exact ⟨O0.out, ⟨_, B0.out, Own.nil _⟩, by simp, by simp⟩
  · intro J l W hsz hc hJ hJI hy h0
    refine (keys_iter m mb pm (W0.heap.size + 2) l J W hsz (by omega) (by omega) hJ (MapAt.chg M0.out hc (by simp)) (Blk.chg P0.out hc (by simp)) ?_ h0).mono ?_
    · intro s i W1 hi hns hj hlt
      obtain ⟨fn, tmps, asg, body, h1, h2⟩ := hy s i W1 hi hns hj hlt
      rw [keyAt_eq hi] at h1
      refine ⟨fn, tmps, asg, body, h1, h2.mono ?_⟩
      rintro e W' ⟨h3, h4, G, h5, h6, h7⟩
      exact ⟨h3, h4, G, h5, h6, h7 _ (by simp)⟩
    · exact fun _ _ h => h
  · intro l s i W hi his hI hs
    obtain ⟨hov, ⟨v, hb2, hown⟩, hnd, hlt⟩ := hI
    have hk32 : keyAt m i < 4294967296 := by rw [keyAt_eq hi]; exact h32 _ (List.getElem_mem hi)
    have hsl : s.length ≤ m.length := by
      have := nodup_len s (List.range m.length) hnd (fun i hi => List.mem_range.2 (hlt i hi))
      simpa using this
    have hgo : (s ++ [i]).map (keyAt m) = s.map (keyAt m) ++ [keyAt m i] := by simp
    have hnd' : (s ++ [i]).Nodup ∧ ∀ j ∈ s ++ [i], j < m.length := ⟨List.nodup_append.2 ⟨hnd, by simp, by rintro a ha b hb; simp at hb; subst hb; exact fun e => his (e ▸ ha)⟩, by
      intro j hj; rcases List.mem_append.1 hj with h | h; exact hlt _ h; simp at h; subst h; exact hi⟩
    have HGO := hid hgo
    have HND := hid hnd'
    generalize keyAt m i = kv at *
    obtain ⟨XS, hXS⟩ : ∃ XS, s.map (keyAt m) = XS := ⟨_, rfl⟩
    have hXl : XS.length ≤ 1000000 := by rw [← hXS]; simp; omega
    rw [hXS] at hown
    have HXS := hid hXS
    have HOV := hid hov
    have H2 := hid hb2
    have HO := hid hown
    clear hXS hov hb2 hown hgo hnd' hnd hlt
    refine region_lift (by rintro ⟨a, w, h⟩; exact h) (by kernel_rfl) ?_
    rw [foldW]
    simp only [List.setIfInBounds_toArray, List.set_cons_succ, List.set_cons_zero]
    go_wp2_with fail
    refine ⟨⟨[], (by exact chA), by simp, by simp, by simp, by simp⟩, ?_⟩
    intro w2 hc2 hs2
    have C2 : Hid (Chg [W0.heap.size + 1] W w2) := hid (Chg.then (Chg.refl _ _) hc2 (by simp))
    have D2 : Hid (Blk w2 w.heap.size [v] 39) := hid (Blk.chg H2.out C2.out (by simp; omega))
    have DO : Hid (OwnW (W0.heap.size + 3) w2 v XS) := hid (Own.chg HO.out C2.out (fun g hg => by have := (Own.lt HO.out hg).1; simp; omega))
    have DV : Hid (∃ e, w2 = over w e) := hid (Chg.ov HOV.out C2.out (by simp; omega))
    clear hc2
    have q20 := D2.out.cell 0 rfl
    have g20 := D2.out.free 0
    have l2 := D2.out.lt
    have HS0 := hid hs0
    have HS2 := hid hs2
    clear hs0
    refine wpIn_block ?_
    refine region_lift (by rintro ⟨a, w, h⟩; simp [Exit.inBlock] at h) (by kernel_rfl) ?_
    go_wp2_with (
      at_builtin
      refine wpList_append' u32_elem wcs_len wcs_one rfl (.tmp 8) (.tmp 10) rfl (base := W0.heap.size + 3) (v := v) (ys := XS) (xs := [kv]) (Own.alloc DO.out _) rfl rfl (by exact szA) (by (repeat with_reducible refine Sl.drew ?_); exact Sl.one_new (y := kv) (by simp; try omega)) (by simp only [List.length_append, List.length_singleton]; unfold maxLen; omega) (by simp only [List.length_append, List.length_singleton]; omega) ?_
      intro v' m hown' hv'
      obtain ⟨av, cv, hve, _⟩ := Own.slice wcs_len hown'
      subst hve
      obtain ⟨n', hn'⟩ : ∃ n', (XS ++ [kv]).length = n' := ⟨_, rfl⟩
      rw [hn'] at hown' hv' ⊢
      clear hn'
      refine gen_w ?_
      intro W8 hW8
      have E8 : Hid (Chg v.ownBlock.toList w2 W8) := hid (by rw [hW8]; exact Chg.trans (Chg.alloc (Chg.refl _ _) _) (chg_chg _ _ _))
      have EO : Hid (OwnW (W0.heap.size + 3) W8 (.slice av n' cv) (XS ++ [kv])) := hid (by rw [hW8]; exact hown')
      have hvl : ∀ g ∈ v.ownBlock.toList, W0.heap.size + 3 ≤ g := fun g hg => (Own.lt DO.out (by simpa using hg)).1
      have E2 := hid (Blk.chg D2.out E8.out (fun hm => by have := hvl _ hm; have := HS0.out; omega))
      have EV : Hid (∃ e, W8 = over w e) := hid (Chg.ov DV.out E8.out (fun g hg => by have := hvl _ hg; have := HS0.out; omega))
      have HVL := hid hvl
      clear hW8 hown' hv' hvl q20 g20 l2
      have q20 := E2.out.cell 0 rfl
      have g20 := E2.out.free 0
      have l2 := E2.out.lt)
    have hs0 := HS0.out
    have hv6 : (Value.slice av n' cv).ownBlock ≠ some w.heap.size := fun h => by have := (Own.lt EO.out h).1; omega
    refine ⟨trivial, ⟨?_, ⟨_, E2.out.set 0 _, ?_⟩, HND.out⟩, w.heap.size :: v.ownBlock.toList, ?_, ?_, ?_, ?_, ?_⟩
    · exact Chg.ov EV.out (Chg.setCell (F := [w.heap.size]) (Chg.refl _ _) (.inl (by simp)) _) (by simp)
    · rw [HGO.out, HXS.out]; exact Own.set_ne EO.out hv6 _
    · exact Chg.setCell (E8.out.mono (fun i hi => .inl (by simp [hi]))) (.inl (by simp)) _
    · intro hm; rcases List.mem_cons.1 hm with h | h; omega; have := HVL.out _ h; omega
    · intro hm; rcases List.mem_cons.1 hm with h | h; omega; have := HVL.out _ h; omega
    · intro hm; rcases List.mem_cons.1 hm with h | h; omega; have := HVL.out _ h; omega
    · intro k hk hm; simp at hk; rcases List.mem_cons.1 hm with h | h; omega; have := HVL.out _ h; omega
  · intro s W hI hnd hlt hall hDs hD
    obtain ⟨hov, ⟨v, hb2, hown⟩, _⟩ := hI
    have hp := seen_perm hnd hlt hall
    obtain ⟨ks, hks⟩ : ∃ ks, s.map (keyAt m) = ks := ⟨_, rfl⟩
    have HP : Hid (ks.Perm (m.map (·.1))) := hid (by rw [← hks]; exact hp)
    rw [hks] at hown
    have O1 := hid hov
    have C2 := hid hb2
    have HO := hid hown
    clear hov hb2 hown hp hks hnd hlt hall
    have q20 := C2.out.cell 0 rfl
    have l2 := C2.out.lt
    clear O0 B0 M0 P0
    have HS0 := hid hs0
    clear hs0
    go_wp2_with fail
    refine gen_w ?_
    intro W9 hW9
    have X9 : Hid (Chg [] W W9) := hid (by rw [hW9]; exact (by exact chA))
    clear hW9
    have hs0 := HS0.out
    have Z9 : Chg [W0.heap.size] W (W9.putObj W0.heap.size (.deferred none)) := Chg.then (X9.out.mono (by simp)) (chg_putObj W9 W0.heap.size (.deferred none) (F := [W0.heap.size]) (by simp)) (by simp)
    refine ret_mark (v := v) rfl ((X9.out.block _ hDs (by simp)).trans hD) ?_ ?_
    · simp [results, show Tryz.f121.results = #[.tmp 4] from rfl, go_sem]
    exact ⟨Chg.ov O1.out Z9 (by simp; omega), v, ks, rfl, HP.out, Own.mono (Own.chg HO.out Z9 (fun g hg => by have := (Own.lt HO.out hg).1; simp; omega)) (by omega)⟩

theorem collect_keys {m : List (Nat × Value)} {mb pm : Nat} (w : World) (hM : MapAt w mb m) (hP : Blk w pm [.map (some mb)] 109) (hml : m.length ≤ 1000000) (h32 : ∀ x ∈ m, x.1 < 4294967296) :
    Calls Tryz.prog 84 #[.func (.func 86) #[] #[.pointer (some ⟨pm, 0, none⟩)]] w (KsRes w m) := by
  have HA := hid (appendSeq_keys w hM hP hml h32)
  clear hM hP
  go_enter Tryz.func84, Tryz.ntmps84
  go_wp2_with (go_at_call 121; refine HA.out.mono ?_; rintro _ _ ⟨⟨e, rfl⟩, v, ks, rfl, hp, ho⟩)
  go_ret
  exact ⟨⟨e, rfl⟩, v, ks, rfl, hp, ho⟩
theorem srtN_congr {l l' : List Nat} (h : l.Perm l') : srtN l = srtN l' := by
  have h1 : (srtN l).Perm (srtN l') := (srtN_perm l).trans (h.trans (srtN_perm l').symm)
  refine List.Perm.eq_of_pairwise (le := fun x y => decide (x ≤ y) = true) ?_ ?_ ?_ h1
  · intro a b _ _ h2 h3; simp at h2 h3; omega
  · exact List.pairwise_mergeSort (fun a b c h1 h2 => by simp at *; omega) (fun a b => by simp; omega) l
  · exact List.pairwise_mergeSort (fun a b c h1 h2 => by simp at *; omega) (fun a b => by simp; omega) l'
def SerRes (w : World) (ks : List Nat) (en : Ending) (w' : World) : Prop := (∃ e, w' = over w e) ∧ ∃ v, en = .returned v ∧ OwnW w.heap.size w' v ks
theorem sorted_keys {m : List (Nat × Value)} {mb pm : Nat} (w : World) (hM : MapAt w mb m) (hP : Blk w pm [.map (some mb)] 109) (hml : m.length ≤ 1000000) (h32 : ∀ x ∈ m, x.1 < 4294967296) :
    Calls Tryz.prog 44 #[.func (.func 86) #[] #[.pointer (some ⟨pm, 0, none⟩)]] w (SerRes w (srtN (m.map (·.1)))) := by
  have HA := hid (collect_keys w hM hP hml h32)
  clear hM hP
  go_enter Tryz.func44, Tryz.ntmps44
  go_wp2_with (first
    | (go_at_call 84; refine HA.out.mono ?_; rintro _ _ ⟨⟨e, rfl⟩, v, ks, rfl, hp, ho⟩; have HO := hid ho; have HP := hid hp; clear ho hp)
    | (go_at_call 85; refine (sort_own HO.out (by have h1 := HP.out.length_eq; rw [h1]; simp; omega)).mono ?_; rintro _ w5 ⟨rfl, hc5, ho5⟩; have HC5 := hid hc5; have HO5 := hid ho5; clear hc5 ho5))
  go_ret
  refine ⟨Chg.ov ⟨e, rfl⟩ HC5.out (fun g hg => (Own.lt HO.out (by simpa using hg)).1), v, rfl, ?_⟩
  rw [← srtN_congr HP.out]
  exact HO5.out
theorem keys_fn (mb : Nat) (w : World) : Calls Tryz.prog 45 #[.map (some mb)] w (fun e w' => e = .returned (.func (.func 86) #[] #[.pointer (some ⟨w.heap.size, 0, none⟩)]) ∧ ∃ o, w' = over w o ∧ Blk w' w.heap.size [.map (some mb)] 109 ∧ w.heap.size < w'.heap.size) := by
  go_enter Tryz.func45, Tryz.ntmps45
  go_wp2
  go_ret
  refine ⟨rfl, ?_⟩
  obtain ⟨o, ho⟩ : ∃ o, w.alloc (.cells #[.map (some mb)] 109) = over w o := ovA
  exact ⟨o, ho, Blk.new' (by simp), by simp⟩
theorem series_any {base : Nat} {w : World} {b n sz mb : Nat} {L : List Se} (h : BkAt base w b n sz mb L) (hl : L.length ≤ 1000000) :
    Calls Tryz.prog 16 #[.pointer (some ⟨b, 0, none⟩)] w (SerRes w (srtN (L.map (·.id)))) := by
  have q2 := h.blk.cell 2 rfl
  have lb := h.blk.lt
  have HB := hid h
  clear h
  have e1 : (L.map fun x => (x.id, Value.pointer (some ⟨x.sp, 0, none⟩))).map (·.1) = L.map (·.id) := by simp
  have E1 := hid e1
  go_enter Tryz.func16, Tryz.ntmps16
  go_wp2_with (first
    | (go_at_call 45; refine (keys_fn mb _).mono ?_; rintro _ w5 ⟨rfl, o, rfl, hb5, hl5⟩; have HB5 := hid hb5; clear hb5)
    | (go_at_call 44; refine (sorted_keys (m := L.map fun x => (x.id, .pointer (some ⟨x.sp, 0, none⟩))) _ (HB.out.on o).map HB5.out (by simpa using hl) (by intro x hx; obtain ⟨y, hy, rfl⟩ := List.mem_map.1 hx; exact HB.out.id32 y hy)).mono ?_; rintro _ w6 ⟨⟨e6, rfl⟩, v, rfl, ho⟩; rw [E1.out] at ho; have HO := hid ho; clear ho))
  go_ret
  exact ⟨ovA, v, rfl, Own.mono HO.out (by simp)⟩
end
end Go.Proofs.YtnihngljmmbenaaGreatDoor
