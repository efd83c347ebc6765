/- A range over a function whose state stands in cells: what holds for one operation holds in a round; the statement's law; a function that leaves with a mark. -/
import Derived.Test.YtneeikjiabpjhaaGreatDoorMem
import Derived.Test.YtneeikjiabpjhaaGreatDoorMix2
import Derived.RangeFuncMany
import Derived.RangeFuncLeaves
import Derived.OwnWalkIn
import Derived.OrdersIn
namespace Go.Proofs.YtneeikjiabpjhaaGreatDoor
set_option linter.unusedVariables false
set_option linter.unusedSimpArgs false
open Go.RowKit

namespace M2
section
variable {P : Program}
end
end M2

/-! ### A round's operations are carried out as everywhere -/
section
variable {P : Program} {r n : Nat} {ops : Array Oper} {Q : Exit → Act → World → Prop}
theorem calls_lift {f : FuncId} {args : Array Value} {w : World} {R : Ending → World → Prop} (h : Calls P f args w R) : CallsIn (Fence.wide.inRound r) n P f args w R := by
  have h1 := (callsIn_wide (n := n)).2 h
  exact ⟨trivial, fun cs hr => h1.2 cs hr⟩
theorem rows_lift {row : String} {args : Array Value} {w : World} {R : Value → World → Prop} (h : Rows P row args w R) : RowsIn (Fence.wide.inRound r) n P row args w R := by
  intro c cs _
  obtain ⟨v, w', h1, h2⟩ := h c cs
  exact ⟨v, w', h1, (stepsIn_wide.2 h2 : StepsIn (Machine.fenced P Fence.wide) P _ _)⟩
theorem oper_lift {o : Oper} (hnd : ∀ c, o.op ≠ .defer c) {K K' : Act → World → Prop} (hK : ∀ a w, K a w → K' a w) {a : Act} {w : World} (h : o.wp P a w K Q) : o.wpIn (Fence.wide.inRound r) n P a w K' Q := by
  unfold Oper.wp at h
  unfold Oper.wpIn
  refine ⟨fun _ _ => trivial, ?_⟩
  rw [show o.semAt (Fence.wide.inRound r).round a.eval = execOp a.eval o from Oper.semAt_some r _ _ hnd]
  generalize (execOp a.eval o).run P w = x at *
  cases x with
  | ok x w' =>
    cases x <;> simp only [Oper.upon, Oper.uponIn] at h ⊢
    all_goals first
      | exact hK _ _ h
      | exact h.elim
      | exact ⟨fun hd => (by cases hd), calls_lift (h.mono (fun e w'' he => by cases e <;> first | exact hK _ _ he | exact he))⟩
      | exact ⟨fun hd => (by cases hd), rows_lift (h.mono (fun _ _ he => hK _ _ he))⟩
  | halt x w' => cases x <;> simp only [Oper.upon, Oper.uponIn] at h ⊢ <;> exact h
variable (hQ : ¬ LetsOut Q)
include hQ
theorem list_lift {l : List Oper} (hnd : ∀ o ∈ l, ∀ c, o.op ≠ .defer c) : ∀ {a : Act} {w : World}, wpList P ops Q l a w → wpListIn (Fence.wide.inRound r) n P ops Q l a w := by
  induction l with
  | nil => exact fun h => h
  | cons o l ih =>
    intro a w h
    simp only [wpList, wpListIn] at h ⊢
    split
    · rename_i hw
      rw [if_pos hw] at h
      rcases h with h | ⟨_, h⟩
      · exact oper_lift (hnd o (by simp)) (fun a w => ih (fun o' h' => hnd o' (by simp [h']))) h
      · exact absurd h hQ
    · rename_i hw
      rw [if_neg hw] at h
      exact ⟨fun _ _ => trivial, ih (fun o' h' => hnd o' (by simp [h'])) h⟩
theorem region_lift {id : Nat} {l : List Oper} (hnd : (l.all fun o => match o.op with | .defer _ => false | _ => true) = true) {a : Act} {w : World} (h : wpList P l.toArray Q l a w) : (Code.region id l.toArray false).wpIn (Fence.wide.inRound r) n P Q a w := by
  refine wpIn_region_lit (list_lift hQ ?_ h)
  intro o ho c hc
  have := List.all_eq_true.1 hnd o ho
  rw [hc] at this; cases this
end

/-! ### A function that leaves with a mark -/
section
variable {P : Program}
theorem calls_of_marks {f : FuncId} {fn : Func} {c : Code} {args : Array Value} {w : World} {R : Ending → World → Prop}
    (hf : P.funcs[f]? = some fn) (hb : fn.body = some c)
    (h : c.wp P (bodyPostM Fence.wide 1 P fn R) { tmps := args ++ Array.replicate (fn.ntmps - args.size) undef, defers := [] } w) : Calls P f args w R :=
  (callsIn_wide (n := 1)).1 (callsIn_of_wp_marks hf hb trivial (wpIn_wide.2 h))
theorem chg_putObj (W : World) (l : Nat) (o : Obj) {F : List Nat} (hl : l ∈ F) : Chg F W (W.putObj l o) :=
  ⟨rfl, rfl, rfl, by simp, fun k _ hk => World.putObj_heap_other (fun e => hk (e ▸ hl))⟩
theorem ret_mark {fn : Func} {R : Ending → World → Prop} {a : Act} {w : World} {D : Nat} {v : Value} (hd : a.defers = [{ target := .collected D, args := #[] }]) (hD : w.heap[D]? = some (.deferred (some [])))
    (hr : (results fn a.tmps).run P (w.putObj D (.deferred none)) = .ok v (w.putObj D (.deferred none))) (hR : R (.returned v) (w.putObj D (.deferred none))) : bodyPostM Fence.wide 1 P fn R .ret a w := by
  show LeavesInM Fence.wide 1 P fn a.tmps R a.defers .returning w
  rw [hd]
  exact ⟨by simp, .inl ⟨D, _, rfl, run_takeDeferred hD, v, hr, hR⟩⟩

/-! ### The statement -/
theorem wp_rangeFunc_st {g : Operand} {ps : Array Tmp} {assign body : Code} {Q : Exit → Act → World → Prop} {a : Act} {w : World} {gf : Nat} {la lb : Array Value}
    (hg : a.eval g = .func (.func gf) la lb) (eg : ∀ args w, (callFunc gf args).run P w = .ok (.enter gf args) w)
    (p : Nat) (hp : p < w.heap.size) (N : Nat) (vals : Nat → Array Value) (hps : ∀ k, (vals k).size = ps.size) (cells : Nat → List Value) (c0 cN : List Value) (t : TypeId)
    (I : Nat → World → Prop)
    (hI : ∀ k A B, I k A → Chg [p, w.heap.size, w.heap.size + 1] A B → I k B)
    (h0 : I 0 w) (hc0 : Blk w p c0 t)
    (hiter : ∀ (J : Nat → World → Prop) (l : Nat) (W : World), (∀ k A B, J k A → Chg [p] A B → J k B) → (∀ k A, J k A → I k A) →
      (∀ k W1, k < N → J k W1 → Blk W1 p (cells k) t → YieldAt Fence.wide 0 P l (vals k) W1 fun e W' => e = .returned (.bool true) ∧ J (k + 1) W' ∧ Blk W' p (cells k) t) →
      J 0 W → Blk W p c0 t → Calls P gf (la ++ #[.func (.yield l) #[] #[]] ++ lb) W (fun e W' => (∃ v, e = .returned v) ∧ J N W' ∧ Blk W' p cN t))
    (hround : ∀ (l k : Nat) (W : World), k < N → I k W → w.heap.size + 2 ≤ W.heap.size → assign.wpIn (Fence.wide.inRound l) 0 P (Exit.then (fun a1 w1 => (∃ G, Chg G W w1 ∧ p ∉ G ∧ w.heap.size ∉ G ∧ w.heap.size + 1 ∉ G) ∧
        ∀ w2, Chg [w.heap.size + 1] w1 w2 → Blk w2 p (cells k) t → w.heap.size + 2 ≤ w2.heap.size → body.wpIn (Fence.wide.inRound l) 0 P (fun e _ W' => e = .normal ∧ I (k + 1) W' ∧ ∃ G, Chg G w2 W' ∧ p ∉ G ∧ w.heap.size ∉ G ∧ w.heap.size + 1 ∉ G) a1 w2) (fun _ _ _ => False))
      { tmps := (ps.zip (vals k)).foldl (fun t (p, v) => t.setIfInBounds p v) a.tmps, defers := [] } W)
    (hdone : ∀ (W : World), I N W → Blk W p cN t → W.heap[w.heap.size]? = some (.deferred (some [])) → Q .normal { a with defers := { target := .collected w.heap.size, args := #[] } :: a.defers } W) :
    (Code.rangeFunc g ps assign body).wp P Q a w := by
  refine wpIn_wide.1 (wpIn_rangeFunc (n := 1) ?_)
  intro fn hfn
  obtain ⟨rec, hrec⟩ : ∃ rec : LoopState → Option Code → Loop, rec = fun st pe => { state := st, pending := pe, fn, tmps := a.tmps, params := ps, assign, body, defers := w.heap.size } := ⟨_, rfl⟩
  obtain ⟨W1, hW1⟩ : ∃ W1, (w.alloc (.deferred (some []))).alloc (.loop (rec .ready none)) = W1 := ⟨_, rfl⟩
  have hL1 : W1.heap[w.heap.size + 1]? = some (.loop (rec .ready none)) := by
    rw [← hW1]; have := World.alloc_heap_new (w.alloc (.deferred (some []))) (.loop (rec .ready none)); rwa [World.size_alloc] at this
  have hK1 : W1.heap[w.heap.size]? = some (.deferred (some [])) := by
    rw [← hW1]; exact (Below.heap_alloc _ _ _ (by simp)).trans (World.alloc_heap_new w _)
  have hch1 : ∀ F, Chg F w W1 := fun F => by rw [← hW1]; exact Chg.alloc (Chg.alloc (Chg.refl _ _) _) _
  have hI1 : I 0 W1 := hI 0 _ _ h0 (hch1 _)
  have hs1 : w.heap.size + 2 ≤ W1.heap.size := by rw [← hW1]; simp
  have hB1 : Blk W1 p c0 t := Blk.chg hc0 (hch1 []) (by simp)
  refine ⟨w.heap.size + 1, [{ target := .collected w.heap.size, args := #[] }], W1, { target := .fn (.func gf) lb, args := la ++ #[.func (.yield (w.heap.size + 1)) #[] #[]] }, W1, gf,
    la ++ #[.func (.yield (w.heap.size + 1)) #[] #[]] ++ lb, W1, ?_, ?_, ?_, ?_, fun _ => Nat.le_refl _, ?_⟩
  · rw [← hW1, hrec]; exact run_enterLoop_outer _ _ _ _ _
  · simp only [resolve, hg]
    simp [go_sem]
  · intro f' hf'; trivial
  · simp [invoke, go_sem, eg]
  · refine (callsIn_wide (n := 0)).2 ((hiter (fun k W => I k W ∧ W.heap[w.heap.size + 1]? = some (.loop (rec .ready none)) ∧ W.heap[w.heap.size]? = some (.deferred (some [])) ∧ w.heap.size + 2 ≤ W.heap.size) (w.heap.size + 1) W1 ?_ (fun _ _ h => h.1) ?_ ⟨hI1, hL1, hK1, hs1⟩ hB1).mono ?_)
    · rintro k A B ⟨hi, hl, hk, hs⟩ hc
      exact ⟨hI k A B hi (hc.mono (fun i hi => .inl (by simp at hi; simp [hi]))), (hc.block _ (by omega) (by simp; omega)).trans hl, (hc.block _ (by omega) (by simp; omega)).trans hk, Nat.le_trans hs hc.size⟩
    · rintro k W hkN ⟨hi, hl, hk, hs⟩ hb
      have hy := run_yield (P := P) (args := vals k) hl (by rw [hrec]; exact hps k)
      rw [hrec] at hy
      refine ⟨fn, _, assign, body, hy, roundIn_of_wpIn hfn ?_⟩
      refine wpIn_mono (hround (w.heap.size + 1) k W hkN hi hs) ?_
      intro e a1 w1 hq
      cases e with
      | normal =>
        obtain ⟨⟨G, hG, hGp, hGd, hGl⟩, hbody⟩ := hq
        have hl1 : w1.heap[w.heap.size + 1]? = some (.loop (rec .ready none)) := (hG.block _ (by omega) hGl).trans hl
        have hk1 : w1.heap[w.heap.size]? = some (.deferred (some [])) := (hG.block _ (by omega) hGd).trans hk
        have hs1' : w.heap.size + 2 ≤ w1.heap.size := Nat.le_trans hs hG.size
        have hb1 : Blk w1 p (cells k) t := Blk.chg hb hG hGp
        refine ⟨_, run_beginRound hl1 (by rw [hrec]), ?_⟩
        have hc2 := chg_putObj w1 (w.heap.size + 1) (.loop { rec .ready none with state := .busy }) (F := [w.heap.size + 1]) (by simp)
        have hl2 : (w1.putObj (w.heap.size + 1) (.loop { rec .ready none with state := .busy })).heap[w.heap.size + 1]? = some (.loop { rec .ready none with state := .busy }) := World.putObj_heap_same (by omega)
        have hk2 : (w1.putObj (w.heap.size + 1) (.loop { rec .ready none with state := .busy })).heap[w.heap.size]? = some (.deferred (some [])) := (World.putObj_heap_other (by omega)).trans hk1
        have hb2 : Blk (w1.putObj (w.heap.size + 1) (.loop { rec .ready none with state := .busy })) p (cells k) t := Blk.chg hb1 hc2 (by simp; omega)
        have hs2 : w.heap.size + 2 ≤ (w1.putObj (w.heap.size + 1) (.loop { rec .ready none with state := .busy })).heap.size := Nat.le_trans hs1' hc2.size
        generalize w1.putObj (w.heap.size + 1) (.loop { rec .ready none with state := .busy }) = w2 at *
        refine wpIn_mono (hbody w2 hc2 hb2 hs2) ?_
        rintro e a3 W3 ⟨rfl, hi3, G3, hG3, hp3, hd3, hl3⟩
        have hl4 : W3.heap[w.heap.size + 1]? = some (.loop { rec .ready none with state := .busy }) := (hG3.block _ (by omega) hl3).trans hl2
        have hk4 : W3.heap[w.heap.size]? = some (.deferred (some [])) := (hG3.block _ (by omega) hd3).trans hk2
        have hb4 : Blk W3 p (cells k) t := Blk.chg hb2 hG3 hp3
        have hs4 : w.heap.size + 2 ≤ W3.heap.size := Nat.le_trans hs2 hG3.size
        have hend := run_endRound (P := P) none hl4
        refine ⟨_, _, hend, rfl, ⟨hI _ _ _ hi3 (chg_putObj _ _ _ (by simp)), ?_, (World.putObj_heap_other (by omega)).trans hk4, by simpa using hs4⟩, Blk.chg hb4 (chg_putObj _ _ _ (F := [w.heap.size + 1]) (by simp)) (by simp; omega)⟩
        rw [World.putObj_heap_same (by omega), hrec]
        rfl
      | ret => exact hq.elim
      | exit id => exact hq.elim
      | goto t => exact hq.elim
      | panic ch => exact hq.elim
      | outgrown => exact hq.elim
    · rintro e W2 ⟨⟨v, rfl⟩, ⟨hi, hl, hk, hs⟩, hb⟩
      refine ⟨none, _, by have := run_endLoop (P := P) hl (by rw [hrec]; simp); rw [hrec] at this; exact this, ?_⟩
      exact hdone _ (hI _ _ _ hi (chg_putObj _ _ _ (by simp))) (Blk.chg hb (chg_putObj _ _ _ (F := [w.heap.size + 1]) (by simp)) (by simp; omega)) ((World.putObj_heap_other (by omega)).trans hk)
end
end Go.Proofs.YtneeikjiabpjhaaGreatDoor
