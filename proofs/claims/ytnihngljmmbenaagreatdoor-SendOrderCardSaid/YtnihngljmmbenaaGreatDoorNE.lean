import Derived.Test.YtnihngljmmbenaaGreatDoorGF
import Derived.Test.YtnihngljmmbenaaGreatDoorGE
import Derived.Test.YtnihngljmmbenaaGreatDoorNJ
import Derived.Test.YtnihngljmmbenaaGreatDoorNI
import Derived.Test.YtnihngljmmbenaaGreatDoorMix2
import Derived.RangeFuncMany
import Derived.RangeFuncLeaves
import Derived.OwnWalkIn
import Derived.OrdersIn
namespace Go.Proofs.YtnihngljmmbenaaGreatDoor
set_option linter.unusedVariables false
set_option linter.unusedSimpArgs false
section
open Go.RowKit
attribute [local go_sem] over_drew

def TmNo (w : World) (en : Ending) (w' : World) : Prop :=
  ∃ t d n, en = .returned (.tuple #[.int .i64 t, .int .i64 d, .int .i64 n, .bool false]) ∧ ∃ x, w' = over w x

abbrev cgV (p : (Int × Nat) × Int × En × Nat) : Value := .tuple #[smV p.1.1 p.1.2, .int .i64 p.2.1, p.2.2.1.v, .int .u16 (p.2.2.2 : Nat)]
end
section
open Go.RowKit

namespace M2
section
variable {P : Program}
end
end M2

/-! ### A round's operations are carried out as everywhere -/
section
variable {P : Program} {r n : Nat} {ops : Array Oper} {Q : Exit → Act → World → Prop}
theorem calls_lift {f : FuncId} {args : Array Value} {w : World} {R : Ending → World → Prop} (h : Calls P f args w R) : CallsIn (Fence.wide.inRound r) n P f args w R := by
  have h1 := (callsIn_wide (n := n)).2 h
  exact ⟨trivial, fun cs hr => h1.2 cs hr⟩
theorem rows_lift {row : String} {args : Array Value} {w : World} {R : Value → World → Prop} (h : Rows P row args w R) : RowsIn (Fence.wide.inRound r) n P row args w R := by
  intro c cs _
  obtain ⟨v, w', h1, h2⟩ := h c cs
  exact ⟨v, w', h1, (stepsIn_wide.2 h2 : StepsIn (Machine.fenced P Fence.wide) P _ _)⟩
theorem oper_lift {o : Oper} (hnd : ∀ c, o.op ≠ .defer c) {K K' : Act → World → Prop} (hK : ∀ a w, K a w → K' a w) {a : Act} {w : World} (h : o.wp P a w K Q) : o.wpIn (Fence.wide.inRound r) n P a w K' Q := by
  unfold Oper.wp at h
  unfold Oper.wpIn
  refine ⟨fun _ _ => trivial, ?_⟩
  rw [show o.semAt (Fence.wide.inRound r).round a.eval = execOp a.eval o from Oper.semAt_some r _ _ hnd]
  generalize (execOp a.eval o).run P w = x at *
  cases x with
  | ok x w' =>
    cases x <;> simp only [Oper.upon, Oper.uponIn] at h ⊢
    all_goals first
      | exact hK _ _ h
      | exact h.elim
      | exact ⟨fun hd => (by cases hd), calls_lift (h.mono (fun e w'' he => by cases e <;> first | exact hK _ _ he | exact he))⟩
      | exact ⟨fun hd => (by cases hd), rows_lift (h.mono (fun _ _ he => hK _ _ he))⟩
  | halt x w' => cases x <;> simp only [Oper.upon, Oper.uponIn] at h ⊢ <;> exact h
variable (hQ : ¬ LetsOut Q)
include hQ
theorem list_lift {l : List Oper} (hnd : ∀ o ∈ l, ∀ c, o.op ≠ .defer c) : ∀ {a : Act} {w : World}, wpList P ops Q l a w → wpListIn (Fence.wide.inRound r) n P ops Q l a w := by
  induction l with
  | nil => exact fun h => h
  | cons o l ih =>
    intro a w h
    simp only [wpList, wpListIn] at h ⊢
    split
    · rename_i hw
      rw [if_pos hw] at h
      rcases h with h | ⟨_, h⟩
      · exact oper_lift (hnd o (by simp)) (fun a w => ih (fun o' h' => hnd o' (by simp [h']))) h
      · exact absurd h hQ
    · rename_i hw
      rw [if_neg hw] at h
      exact ⟨fun _ _ => trivial, ih (fun o' h' => hnd o' (by simp [h'])) h⟩
theorem region_lift {id : Nat} {l : List Oper} (hnd : (l.all fun o => match o.op with | .defer _ => false | _ => true) = true) {a : Act} {w : World} (h : wpList P l.toArray Q l a w) : (Code.region id l.toArray false).wpIn (Fence.wide.inRound r) n P Q a w := by
  refine wpIn_region_lit (list_lift hQ ?_ h)
  intro o ho c hc
  have := List.all_eq_true.1 hnd o ho
  rw [hc] at this; cases this
end

/-! ### A function that leaves with a mark -/
section
variable {P : Program}
theorem calls_of_marks {f : FuncId} {fn : Func} {c : Code} {args : Array Value} {w : World} {R : Ending → World → Prop}
    (hf : P.funcs[f]? = some fn) (hb : fn.body = some c)
    (h : c.wp P (bodyPostM Fence.wide 1 P fn R) { tmps := args ++ Array.replicate (fn.ntmps - args.size) undef, defers := [] } w) : Calls P f args w R :=
  (callsIn_wide (n := 1)).1 (callsIn_of_wp_marks hf hb trivial (wpIn_wide.2 h))
theorem chg_putObj (W : World) (l : Nat) (o : Obj) {F : List Nat} (hl : l ∈ F) : Chg F W (W.putObj l o) :=
  ⟨rfl, rfl, rfl, by simp, fun k _ hk => World.putObj_heap_other (fun e => hk (e ▸ hl))⟩
theorem ret_mark {fn : Func} {R : Ending → World → Prop} {a : Act} {w : World} {D : Nat} {v : Value} (hd : a.defers = [{ target := .collected D, args := #[] }]) (hD : w.heap[D]? = some (.deferred (some [])))
    (hr : (results fn a.tmps).run P (w.putObj D (.deferred none)) = .ok v (w.putObj D (.deferred none))) (hR : R (.returned v) (w.putObj D (.deferred none))) : bodyPostM Fence.wide 1 P fn R .ret a w := by
  show LeavesInM Fence.wide 1 P fn a.tmps R a.defers .returning w
  rw [hd]
  exact ⟨by simp, .inl ⟨D, _, rfl, run_takeDeferred hD, v, hr, hR⟩⟩

/-! ### The statement -/
end
end
section
open Go.RowKit
attribute [local go_sem] over_drew chg_drew

structure RunC (L : List Bool) (xs : List Sm) (er : Nat) : Prop where
  rd : ReadC L xs
  fin : er = 0 ∧ (bitsC En.zero xs).length = L.length ∨ er = 61 ∧ (bitsC En.zero xs).length < L.length ∧ getC L (bitsC En.zero xs).length (knowC En.zero xs) = ((0, 0), 0, En.zero, 61)
theorem ReadC.le {L : List Bool} {xs : List Sm} (h : ReadC L xs) : (bitsC En.zero xs).length ≤ L.length := by
  obtain ⟨r, hr⟩ := h.bits; rw [hr, List.length_append]; omega
theorem RunC.at_ {L : List Bool} {xs : List Sm} {er : Nat} (h : RunC L xs er) (hl : L.length ≤ 700000) {k : Nat} (hk : k < xs.length) :
    getC L (bitsC En.zero (xs.take k)).length (knowC En.zero (xs.take k)) = ((xs[k].t, xs[k].v), (((bitsC En.zero (xs.take (k + 1))).length : Nat) : Int), knowC En.zero (xs.take (k + 1)), 0) := by
  have hx := h.rd.wf
  have hln := h.rd.len
  have h1 := knowZ (xs := xs.take k) (fun s hs => hx s (List.mem_of_mem_take hs)) (by rw [List.length_take]; omega)
  have h2 := h.rd.good
  rw [← List.take_append_drop (k + 1) xs, goodC_app, takeC_get hk, goodC_snoc] at h2
  have h3 := hx xs[k] (List.getElem_mem hk)
  obtain ⟨r, hr⟩ := h.rd.bits
  have h4 := getC_laid (bitsC En.zero (xs.take k)) (bitsC (knowC En.zero (xs.take (k + 1))) (xs.drop (k + 1)) ++ r) h1.1 h1.2.1 h3.1 h3.2 h2.1.2
  have e1 : L = bitsC En.zero (xs.take k) ++ ((laid (knowC En.zero (xs.take k)) xs[k].t xs[k].v).1 ++ (bitsC (knowC En.zero (xs.take (k + 1))) (xs.drop (k + 1)) ++ r)) := by
    rw [hr]
    conv => lhs; rw [← List.take_append_drop (k + 1) xs]
    rw [bitsC_app, takeC_get hk, bitsC_snoc]
    simp only [List.append_assoc]
  rw [e1, h4, takeC_get hk, bitsC_snoc, knowC_snoc, List.length_append]
theorem RunC.front {L : List Bool} {xs : List Sm} {er : Nat} (h : RunC L xs er) (hl : L.length ≤ 700000) (k : Nat) : soundE (knowC En.zero (xs.take k)) = true ∧ (knowC En.zero (xs.take k)).wf ∧ (bitsC En.zero (xs.take k)).length ≤ L.length := by
  have h1 := knowZ (xs := xs.take k) (fun s hs => h.rd.wf s (List.mem_of_mem_take hs)) (by rw [List.length_take]; have := h.rd.len; omega)
  refine ⟨h1.1, h1.2.1, ?_⟩
  have h2 := h.rd.le
  rw [← List.take_append_drop k xs, bitsC_app, List.length_append] at h2
  omega
theorem RunC.lt {L : List Bool} {xs : List Sm} {er : Nat} (h : RunC L xs er) (hl : L.length ≤ 700000) {k : Nat} (hk : k < xs.length) : (bitsC En.zero (xs.take k)).length < (bitsC En.zero (xs.take (k + 1))).length ∧ (bitsC En.zero (xs.take (k + 1))).length ≤ L.length := by
  have h1 := h.front hl k
  have h2 := h.at_ hl hk
  have h3 := getC_ok h2 h1.2.1
  exact ⟨by have := h3.2.1; omega, (h.front hl (k + 1)).2.2⟩

abbrev wkC (a : Option Addr) (n c : Nat) (N at_ : Int) (e : En) (f : Nat) : List Value := [.slice a n c, .int .i64 N, .int .i64 at_, .int .i64 e.n, .int .i64 e.last, .int .i64 e.delta, .bool e.val.has, .int .u64 (e.val.prev : Nat), .int .u8 (e.val.lead : Nat), .int .u8 (e.val.width : Nat), .int .u16 (f : Nat)]
def smAt (xs : List Sm) (k : Nat) : Value := smV (xs.getD k ⟨0, 0⟩).t (xs.getD k ⟨0, 0⟩).v
section
variable {A W : World} {p : Nat} {F : List Nat} {x0 x1 x2 x3 x4 x5 x6 x7 x8 x9 x10 v2 v3 v4 v5 v6 v7 v8 v9 v10 : Value} {lit : Obj} {e : World} {t : TypeId}
end
end
end Go.Proofs.YtnihngljmmbenaaGreatDoor
