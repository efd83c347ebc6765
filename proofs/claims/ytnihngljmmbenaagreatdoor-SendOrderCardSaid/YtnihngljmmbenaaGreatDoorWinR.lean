import Derived.Test.YtnihngljmmbenaaGreatDoorSC
namespace Go.Proofs.YtnihngljmmbenaaGreatDoor
set_option linter.unusedVariables false
set_option linter.unusedSimpArgs false
open Go.RowKit

set_option maxHeartbeats 400000 in
theorem rbefore_any (a b : Pw) (w : World) : Calls Tryz.prog 27 #[a.v, b.v] w (Ret w (.bool (bef a b))) := by
  unfold Pw.v
  by_cases h : a.c = b.c
  · have hb := hid (show bef a b = decide (a.n < b.n) by simp [bef, h])
    have g1 : decide (a.c < b.c) = false := by simp; omega
    have g2 : (a.c == b.c) = true := by simp [h]
    clear h
    go_enter Tryz.func27, Tryz.ntmps27
    go_wp2
    go_ret
    exact ⟨ovA, ret_bool (by rw [hb.out])⟩
  · have hb := hid (show bef a b = decide (a.c < b.c) by simp [bef, h])
    have g2 : (a.c == b.c) = false := by simp [h]
    clear h
    cases g1 : decide (a.c < b.c)
    · go_enter Tryz.func27, Tryz.ntmps27
      go_wp2
      go_ret
      exact ⟨ovA, ret_bool (by rw [hb.out, g1])⟩
    · go_enter Tryz.func27, Tryz.ntmps27
      go_wp2
      go_ret
      exact ⟨ovA, ret_bool (by rw [hb.out, g1])⟩

def RWinAt (base : Nat) (w : World) (p : Nat) (most : Int) (xs : List Pc) (F : List Nat) : Prop :=
  ∃ v, Blk w p [.int .i64 most, v] 153 ∧ Own base 155 8 Pc.cs w v xs ∧ base ≤ p ∧ v.ownBlock ≠ some p ∧ F = p :: v.ownBlock.toList
theorem RWinAt.chg {base : Nat} {w w' : World} {p : Nat} {most : Int} {xs : List Pc} {F G : List Nat} (h : RWinAt base w p most xs F) (hc : Chg G w w') (hd : ∀ k ∈ F, k ∉ G) : RWinAt base w' p most xs F := by
  obtain ⟨v, h1, h2, h3, h4, rfl⟩ := h
  exact ⟨v, h1.chg hc (hd p (by simp)), h2.chg hc (fun g hg => hd g (by simp [hg])), h3, h4, rfl⟩
theorem RWinAt.lt {base : Nat} {w : World} {p : Nat} {most : Int} {xs : List Pc} {F : List Nat} (h : RWinAt base w p most xs F) : ∀ k ∈ F, base ≤ k ∧ k < w.heap.size := by
  obtain ⟨v, h1, h2, h3, h4, rfl⟩ := h
  intro k hk
  rcases List.mem_cons.1 hk with rfl | hk
  · exact ⟨h3, h1.lt⟩
  · exact h2.lt (by simpa using hk)
def RDid (base : Nat) (w : World) (p : Nat) (most : Int) (F : List Nat) (v : Value) (xs' : List Pc) (en : Ending) (w' : World) : Prop :=
  en = .returned v ∧ ∃ m F', w' = chg F w m ∧ RWinAt base w' p most xs' F' ∧ ∀ k ∈ F', k ∈ F ∨ w.heap.size ≤ k
theorem RDid.mk {base : Nat} {w w' : World} {p : Nat} {most : Int} {F F' : List Nat} {v : Value} {xs' : List Pc} (hc : Chg F w w') (hw : RWinAt base w' p most xs' F') (hF : ∀ k ∈ F', k ∈ F ∨ w.heap.size ≤ k) : RDid base w p most F v xs' (.returned v) w' := by
  obtain ⟨m, hm⟩ := chg_of hc
  exact ⟨rfl, m, F', hm, hw, hF⟩
theorem RDid.same {base : Nat} {w w' : World} {p : Nat} {most : Int} {F : List Nat} {v : Value} {xs : List Pc} (h : RWinAt base w p most xs F) (ho : ∃ e, w' = over w e) : RDid base w p most F v xs (.returned v) w' :=
  RDid.mk (Chg.of_ov ho F) (h.chg (G := []) (Chg.of_ov ho []) (by simp)) (fun k hk => .inl hk)

end Go.Proofs.YtnihngljmmbenaaGreatDoor
