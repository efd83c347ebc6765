import Derived.Test.YtnffcckhdedhpaaGreatDoorGF
namespace Go.Proofs.YtnffcckhdedhpaaGreatDoor
set_option linter.unusedVariables false
set_option linter.unusedSimpArgs false
set_option maxRecDepth 100000
set_option maxHeartbeats 4000000
section
open Go.RowKit
attribute [local go_sem] odr cdr
def En.cs (e : En) : List Value := [.int .i64 e.n, .int .i64 e.last, .int .i64 e.delta, .bool e.val.has, .int .u64 (e.val.prev : Nat), .int .u8 (e.val.lead : Nat), .int .u8 (e.val.width : Nat)]
section
variable {W e8 : World} {p3 p4 : Nat} {u0 u1 v0 v1 v2 v3 v4 v5 v6 : Value} {lit : Obj}
end
end
section
open Go.RowKit
attribute [local go_sem] odr
def CpN (w : World) (L : List Bool) (N : Int) (ev : Value) (en : Ending) (w' : World) : Prop :=
 ∃ a c, en = .returned (.tuple #[bv a (pack L).length c N, ev, .int .u16 0]) ∧ (∃ x, w' = over w x) ∧ SlB w' a c (pack L)
theorem CpOwn.n {w w' : World} {L : List Bool} {e : En} {en : Ending} (h : CpOwn w L e en w') {N : Int} (hN : (L.length : Int) = N) {ev : Value} (ht : e.v = ev) : CpN w L N ev en w' := by
 subst hN ht; obtain ⟨a, c, h1, h2, h3⟩ := h; exact ⟨a, c, h1, h2, (Own.slice' bcs_len h3).2⟩
end
section
open Go.RowKit
attribute [local go_sem] odr cdr
theorem sample_elem : ElemOf Tryz.prog 32 38 2 16 := elemOf (z := .agg #[.int .i64 0, .int .u64 0]) (by kernel_rfl) (by kernel_rfl) rfl (by decide)
abbrev OwnM (base : Nat) (w : World) (v : Value) (l : List Sm) : Prop := Own base 38 2 Sm.cs w v l
theorem Sm.eq_of {x y : Sm} (h1 : x.t = y.t) (h2 : x.v = y.v) : x = y := by cases x; cases y; simp_all
theorem rcsame_any (xs ys : List Sm) (hl : xs.length ≤ 1000000) (a : Option Addr) (c : Nat) (b : Option Addr) (d : Nat) (w : World) (h1 : SlM w a c xs) (h2 : SlM w b d ys) :
    Calls Tryz.prog 20 #[.slice a xs.length c, .slice b ys.length d] w (Ret w (.bool (decide (xs = ys)))) := by
  by_cases hlen : xs.length = ys.length
  · have HL := hid hlen; rw [← hlen]; clear hlen
    go_enter Tryz.func20, Tryz.ntmps20; go_wp2_with fail
    go_loopw [5] (fun i wr => ∃ (k : Nat), k ≤ xs.length ∧ i = .int .i64 (k : Nat) ∧ Ov w wr ∧ Hid (xs.take k = ys.take k)) (fun i _ => xs.length - (intOf i).toNat)
    case atStart => exact ⟨0, Nat.zero_le _, rfl, ovA, hid rfl⟩
    case round =>
     obtain ⟨k, hk, rfl, ⟨e0, rfl⟩, HE⟩ := hrel; by_cases hlt : k < xs.length
     · have hlt2 : k < ys.length := HL.out ▸ hlt; obtain ⟨b6, o6, rfl, hb6, k0, k1⟩ := SlM.at_ h1 hlt; obtain ⟨b7, o7, rfl, hb7, j0, j1⟩ := SlM.at_ h2 hlt2; have hx := hid (takeC_get hlt); have hy := hid (takeC_get hlt2); by_cases hxy : xs[k] = ys[k]
       · have HN : Hid (xs.take (k + 1) = ys.take (k + 1)) := hid (by rw [hx.out, hy.out, HE.out, hxy]); rw [← hxy] at j0 j1; clear hx hy hxy; generalize xs[k] = x at *; go_wp2_with fail
         refine wro (by kernel_rfl) (by kernel_rfl) ?_; repeat (go_big_quiet_step ((fail)))
         refine wpQuiet_nil ?_; intro _ hw'; obtain ⟨nq, rfl⟩ := hw'; go_wp2_with fail
         go_roundw
         case rel => exact ⟨k + 1, by omega, by go_num, ovA, HN⟩
         case measure => (simp [intOf]; try omega)
       · have HN : Hid (decide (xs = ys) = false) := hid (decide_eq_false (fun h => hxy (by subst h; rfl))); have hd : xs[k].t ≠ ys[k].t ∨ xs[k].v ≠ ys[k].v := by
          by_cases h : xs[k].t = ys[k].t
          · exact .inr fun h' => hxy (Sm.eq_of h h')
          · exact .inl h
         rw [HN.out]; clear hx hy hxy HN; generalize xs[k] = x at *; generalize ys[k] = y at *; rcases hd with hd | hd
         · have hd' : (x.t == y.t) = false := by simp; exact hd
           go_wp2_with fail
           refine wro (by kernel_rfl) (by kernel_rfl) ?_; repeat (go_big_quiet_step ((fail)))
           refine wpQuiet_nil ?_; intro _ hw'; obtain ⟨nq, rfl⟩ := hw'; go_wp2_with fail
           go_ret
           exact ⟨ovA, rfl⟩
         · have hd' : ((x.v : Int) == (y.v : Int)) = false := by simp; omega
           go_wp2_with fail
           refine wro (by kernel_rfl) (by kernel_rfl) ?_; repeat (go_big_quiet_step ((fail)))
           refine wpQuiet_nil ?_; intro _ hw'; obtain ⟨nq, rfl⟩ := hw'; go_wp2_with fail
           go_ret
           exact ⟨ovA, rfl⟩
     · have HN : Hid (decide (xs = ys) = true) := hid (decide_eq_true (by have h := HE.out; rw [List.take_of_length_le (by omega), List.take_of_length_le (by have := HL.out; omega)] at h; exact h)); obtain rfl : k = xs.length := by omega
       go_wp2_with fail
       go_ret
       exact ⟨ovA, by rw [HN.out]; rfl⟩
  · have HN : Hid (decide (xs = ys) = false) := hid (decide_eq_false (fun h => hlen (by rw [h]))); rw [HN.out]; have h' : ((xs.length : Int) != (ys.length : Int)) = true := by simp; omega
    go_enter Tryz.func20, Tryz.ntmps20; go_wp2_with fail
    go_ret
    exact ⟨ovA, rfl⟩
end
end Go.Proofs.YtnffcckhdedhpaaGreatDoor
