import Derived.Test.YtnffcckhdedhpaaGreatDoorNI
import Derived.Test.YtnffcckhdedhpaaGreatDoorMix2
import Derived.RangeFuncMany
import Derived.RangeFuncLeaves
import Derived.OwnWalkIn
import Derived.OrdersIn
namespace Go.Proofs.YtnffcckhdedhpaaGreatDoor
set_option linter.unusedVariables false
set_option linter.unusedSimpArgs false
section
open Go.RowKit
namespace M2
section
variable {P : Program}
end
end M2
/-! ### A round's operations are carried out as everywhere -/
section
variable {P : Program} {r n : Nat} {ops : Array Oper} {Q : Exit → Act → World → Prop}
theorem calls_lift {f : FuncId} {args : Array Value} {w : World} {R : Ending → World → Prop} (h : Calls P f args w R) : CallsIn (Fence.wide.inRound r) n P f args w R := by
 have h1 := (callsIn_wide (n := n)).2 h; exact ⟨trivial, fun cs hr => h1.2 cs hr⟩
theorem rows_lift {row : String} {args : Array Value} {w : World} {R : Value → World → Prop} (h : Rows P row args w R) : RowsIn (Fence.wide.inRound r) n P row args w R := by
 intro c cs _; obtain ⟨v, w', h1, h2⟩ := h c cs; exact ⟨v, w', h1, (stepsIn_wide.2 h2 : StepsIn (Machine.fenced P Fence.wide) P _ _)⟩
theorem oper_lift {o : Oper} (hnd : ∀ c, o.op ≠ .defer c) {K K' : Act → World → Prop} (hK : ∀ a w, K a w → K' a w) {a : Act} {w : World} (h : o.wp P a w K Q) : o.wpIn (Fence.wide.inRound r) n P a w K' Q := by
 unfold Oper.wp at h; unfold Oper.wpIn; refine ⟨fun _ _ => trivial, ?_⟩; rw [show o.semAt (Fence.wide.inRound r).round a.eval = execOp a.eval o from Oper.semAt_some r _ _ hnd]; generalize (execOp a.eval o).run P w = x at *; cases x with
 | ok x w' =>
  cases x <;> simp only [Oper.upon, Oper.uponIn] at h ⊢
  all_goals first
    | exact hK _ _ h
    | exact h.elim
    | exact ⟨fun hd => (by cases hd), calls_lift (h.mono (fun e w'' he => by cases e <;> first | exact hK _ _ he | exact he))⟩
    | exact ⟨fun hd => (by cases hd), rows_lift (h.mono (fun _ _ he => hK _ _ he))⟩
 | halt x w' => cases x <;> simp only [Oper.upon, Oper.uponIn] at h ⊢ <;> exact h
variable (hQ : ¬ LetsOut Q)
include hQ
theorem list_lift {l : List Oper} (hnd : ∀ o ∈ l, ∀ c, o.op ≠ .defer c) : ∀ {a : Act} {w : World}, wpList P ops Q l a w → wpListIn (Fence.wide.inRound r) n P ops Q l a w := by
 induction l with
 | nil => exact fun h => h
 | cons o l ih =>
  intro a w h; simp only [wpList, wpListIn] at h ⊢; split
  · rename_i hw
    rw [if_pos hw] at h; rcases h with h | ⟨_, h⟩
    · exact oper_lift (hnd o (by simp)) (fun a w => ih (fun o' h' => hnd o' (by simp [h']))) h
    · exact absurd h hQ
  · rename_i hw
    rw [if_neg hw] at h; exact ⟨fun _ _ => trivial, ih (fun o' h' => hnd o' (by simp [h'])) h⟩
theorem region_lift {id : Nat} {l : List Oper} (hnd : (l.all fun o => match o.op with | .defer _ => false | _ => true) = true) {a : Act} {w : World} (h : wpList P l.toArray Q l a w) : (Code.region id l.toArray false).wpIn (Fence.wide.inRound r) n P Q a w := by
 refine wpIn_region_lit (list_lift hQ ?_ h); intro o ho c hc; have := List.all_eq_true.1 hnd o ho; rw [hc] at this; cases this
end
/-! ### A function that leaves with a mark -/
section
variable {P : Program}
theorem calls_of_marks {f : FuncId} {fn : Func} {c : Code} {args : Array Value} {w : World} {R : Ending → World → Prop}
    (hf : P.funcs[f]? = some fn) (hb : fn.body = some c)
    (h : c.wp P (bodyPostM Fence.wide 1 P fn R) { tmps := args ++ Array.replicate (fn.ntmps - args.size) undef, defers := [] } w) : Calls P f args w R :=
  (callsIn_wide (n := 1)).1 (callsIn_of_wp_marks hf hb trivial (wpIn_wide.2 h))
theorem chg_putObj (W : World) (l : Nat) (o : Obj) {F : List Nat} (hl : l ∈ F) : Chg F W (W.putObj l o) :=
 ⟨rfl, rfl, rfl, by simp, fun k _ hk => World.putObj_heap_other (fun e => hk (e ▸ hl))⟩
theorem ret_mark {fn : Func} {R : Ending → World → Prop} {a : Act} {w : World} {D : Nat} {v : Value} (hd : a.defers = [{ target := .collected D, args := #[] }]) (hD : w.heap[D]? = some (.deferred (some [])))
    (hr : (results fn a.tmps).run P (w.putObj D (.deferred none)) = .ok v (w.putObj D (.deferred none))) (hR : R (.returned v) (w.putObj D (.deferred none))) : bodyPostM Fence.wide 1 P fn R .ret a w := by
  show LeavesInM Fence.wide 1 P fn a.tmps R a.defers .returning w
  rw [hd]; exact ⟨by simp, .inl ⟨D, _, rfl, run_takeDeferred hD, v, hr, hR⟩⟩
/-! ### The statement -/
end
end
end Go.Proofs.YtnffcckhdedhpaaGreatDoor
