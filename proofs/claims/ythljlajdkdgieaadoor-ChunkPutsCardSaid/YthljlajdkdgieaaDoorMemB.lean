/- Memory that a call changes: more. -/
import Derived.Test.YthljlajdkdgieaaDoorMem
namespace Go.Proofs.YthljlajdkdgieaaDoor
set_option linter.unusedVariables false
set_option linter.unusedSimpArgs false
open Go.RowKit

theorem Sl.ov {α : Type} {sz : Nat} {cells : α → List Value} {w w' : World} {a : Option Addr} {cap : Nat} {xs : List α} (h : Sl sz cells w a cap xs) (ho : ∃ e, w' = Go.Proofs.YthljlajdkdgieaaDoor.over w e) : Sl sz cells w' a cap xs := by
  obtain ⟨e, rfl⟩ := ho; exact h.over e
theorem heap_chg_in (F : List Nat) (w : World) (m : Mut) (k : Nat) (h : k < w.heap.size) (hF : k ∈ F) : (chg F w m).heap[k]? = some (m.f k) := by
  unfold chg
  show (_ ++ m.e.heap)[k]? = _
  rw [Array.getElem?_append_left (by simpa using h), Array.getElem?_mapIdx]
  simp [hF, Array.getElem?_eq_getElem h]
theorem heap_chg_new (F : List Nat) (w : World) (m : Mut) (k : Nat) (h : w.heap.size ≤ k) : (chg F w m).heap[k]? = m.e.heap[k - w.heap.size]? := by
  unfold chg
  show (_ ++ m.e.heap)[k]? = _
  rw [Array.getElem?_append_right (by simpa using h)]
  simp
theorem chS_chgs {F G : List Nat} {a b : World} (h : ChS F a b) (m : Mut) : ChS F (chg G a m) (chg G b m) := by
  have ha := chg_chg G a m
  have hb := chg_chg G b m
  refine ⟨⟨hb.os.trans (h.1.os.trans ha.os.symm), hb.tape.trans (h.1.tape.trans ha.tape.symm), hb.output.trans (h.1.output.trans ha.output.symm), by simp [h.2], fun k hk hn => ?_⟩, by simp [h.2]⟩
  by_cases hka : k < a.heap.size
  · by_cases hG : k ∈ G
    · rw [heap_chg_in G b m k (by rw [h.2]; exact hka) hG, heap_chg_in G a m k hka hG]
    · rw [heap_chg G b m k (by rw [h.2]; exact hka) hG, heap_chg G a m k hka hG]; exact h.1.block k hka hn
  · rw [heap_chg_new G b m k (by rw [h.2]; omega), heap_chg_new G a m k (by omega), h.2]
theorem chS_set {F : List Nat} {a b : World} (h : ChS F a b) (q : Addr) (hq : q.block ∈ F) (u : Value) : ChS F a (b.setCell q u) := ⟨h.1.setCell (.inl hq) u, by have := h.2; simpa using this⟩
theorem blk_swap {G : List Nat} {a b : World} {m : Mut} {p : Nat} {cs : List Value} {t : TypeId} (h : Blk (chg G a m) p cs t) (hp : p ∈ G) (hl : p < a.heap.size) (hs : b.heap.size = a.heap.size) : Blk (chg G b m) p cs t := by
  unfold Blk at *
  rw [heap_chg_in G b m p (by omega) hp]
  rwa [heap_chg_in G a m p hl hp] at h
theorem chg_drew (F : List Nat) (w : World) (m : Mut) : chg F w.drew m = chg F w m := by unfold chg World.drew; rfl
theorem gen_w {Q : Act → World → Prop} {a : Act} {w : World} (h : ∀ W, W = w → Q a W) : Q a w := h w rfl
end Go.Proofs.YthljlajdkdgieaaDoor
