/- Texts merged: ChkO, ChkA, ChkR. -/
import Derived.Test.YtojkoijdndinoaaDoorGF
namespace Go.Proofs.YtojkoijdndinoaaDoor
set_option linter.unusedVariables false
set_option linter.unusedSimpArgs false
open Go.RowKit
attribute [local go_sem] over_drew chg_drew

def En.cs (e : En) : List Value := [.int .i64 e.n, .int .i64 e.last, .int .i64 e.delta, .bool e.val.has, .int .u64 (e.val.prev : Nat), .int .u8 (e.val.lead : Nat), .int .u8 (e.val.width : Nat)]

/-- The state of the loop. -/
structure OfRel (w : World) (p1 p2 p3 p4 : Nat) (xs : List Sm) (k : Nat) (wr : World) : Prop where
  ov : ∃ e, wr = over w e
  good : goodC En.zero (xs.take k)
  b1 : Blk wr p1 [.slice none 0 0, .int .i64 0] 44
  b2 : Blk wr p2 En.zero.cs 77
  b3 : ∃ a c, Blk wr p3 [.slice a (pack (bitsC En.zero (xs.take k))).length c, .int .i64 ((bitsC En.zero (xs.take k)).length : Nat)] 44 ∧ OwnB (p4 + 1) wr (.slice a (pack (bitsC En.zero (xs.take k))).length c) (pack (bitsC En.zero (xs.take k)))
  b4 : Blk wr p4 (knowC En.zero (xs.take k)).cs 77

section
variable {W e8 : World} {p3 p4 : Nat} {u0 u1 v0 v1 v2 v3 v4 v5 v6 : Value} {lit : Obj}
theorem of_p3 {x0 x1 : Value} {t : TypeId} (h : Blk W p3 [x0, x1] t) (n34 : ¬ p3 = p4) : Blk (over ((((((((((W.setCell ⟨p3, 0, none⟩ u0).setCell ⟨p3, 1, none⟩ u1).setCell ⟨p4, 0, none⟩ v0).setCell ⟨p4, 1, none⟩ v1).setCell ⟨p4, 2, none⟩ v2).setCell ⟨p4, 3, none⟩ v3).setCell ⟨p4, 4, none⟩ v4).setCell ⟨p4, 5, none⟩ v5).setCell ⟨p4, 6, none⟩ v6).alloc lit) e8) p3 [u0, u1] t := by
  refine Blk.on (Blk.alloc (Blk.set_ne (Blk.set_ne (Blk.set_ne (Blk.set_ne (Blk.set_ne (Blk.set_ne (Blk.set_ne ?_ n34 _) n34 _) n34 _) n34 _) n34 _) n34 _) n34 _) _) _
  exact (h.set 0 u0).set 1 u1
theorem of_old {q : Nat} {cs : List Value} {t : TypeId} (h : Blk W q cs t) (n3 : ¬ q = p3) (n4 : ¬ q = p4) : Blk (over ((((((((((W.setCell ⟨p3, 0, none⟩ u0).setCell ⟨p3, 1, none⟩ u1).setCell ⟨p4, 0, none⟩ v0).setCell ⟨p4, 1, none⟩ v1).setCell ⟨p4, 2, none⟩ v2).setCell ⟨p4, 3, none⟩ v3).setCell ⟨p4, 4, none⟩ v4).setCell ⟨p4, 5, none⟩ v5).setCell ⟨p4, 6, none⟩ v6).alloc lit) e8) q cs t := by
  refine Blk.on (Blk.alloc ?_ _) _
  exact Blk.set_ne (Blk.set_ne (Blk.set_ne (Blk.set_ne (Blk.set_ne (Blk.set_ne (Blk.set_ne (Blk.set_ne (Blk.set_ne h n3 u0) n3 u1) n4 v0) n4 v1) n4 v2) n4 v3) n4 v4) n4 v5) n4 v6
theorem of_p4 {x0 x1 x2 x3 x4 x5 x6 : Value} {t : TypeId} (h : Blk W p4 [x0, x1, x2, x3, x4, x5, x6] t) (n43 : ¬ p4 = p3) : Blk (over ((((((((((W.setCell ⟨p3, 0, none⟩ u0).setCell ⟨p3, 1, none⟩ u1).setCell ⟨p4, 0, none⟩ v0).setCell ⟨p4, 1, none⟩ v1).setCell ⟨p4, 2, none⟩ v2).setCell ⟨p4, 3, none⟩ v3).setCell ⟨p4, 4, none⟩ v4).setCell ⟨p4, 5, none⟩ v5).setCell ⟨p4, 6, none⟩ v6).alloc lit) e8) p4 [v0, v1, v2, v3, v4, v5, v6] t := by
  refine Blk.on (Blk.alloc ?_ _) _
  exact (((((((Blk.set_ne (Blk.set_ne h n43 u0) n43 u1).set 0 v0).set 1 v1).set 2 v2).set 3 v3).set 4 v4).set 5 v5).set 6 v6
theorem of_next {w : World} {p1 p2 : Nat} {xs : List Sm} {k : Nat} {a3 a7 : Option Addr} {c3 c7 : Nat} {L' : List Bool} {t' : En} {L0 : List Bool} {t0 : En} (hov : ∃ e, W = over w e) (hg : goodC En.zero (xs.take (k + 1))) (hL : bitsC En.zero (xs.take (k + 1)) = L') (ht : knowC En.zero (xs.take (k + 1)) = t')
    (b1 : Blk W p1 [.slice none 0 0, .int .i64 0] 44) (b2 : Blk W p2 En.zero.cs 77) (b3 : Blk W p3 [.slice a3 (pack L0).length c3, .int .i64 (L0.length : Nat)] 44) (b4 : Blk W p4 t0.cs 77)
    (h1 : w.heap.size ≤ p1) (h2 : p1 < p2) (h3 : p2 < p3) (h4 : p3 < p4)
    (ho : OwnB (W.alloc lit).heap.size (over (W.alloc lit) e8) (.slice a7 (pack L').length c7) (pack L')) :
    OfRel w p1 p2 p3 p4 xs (k + 1) (over ((((((((((W.setCell ⟨p3, 0, none⟩ (.slice a7 (pack L').length c7)).setCell ⟨p3, 1, none⟩ (.int .i64 (L'.length : Nat))).setCell ⟨p4, 0, none⟩ (.int .i64 t'.n)).setCell ⟨p4, 1, none⟩ (.int .i64 t'.last)).setCell ⟨p4, 2, none⟩ (.int .i64 t'.delta)).setCell ⟨p4, 3, none⟩ (.bool t'.val.has)).setCell ⟨p4, 4, none⟩ (.int .u64 (t'.val.prev : Nat))).setCell ⟨p4, 5, none⟩ (.int .u8 (t'.val.lead : Nat))).setCell ⟨p4, 6, none⟩ (.int .u8 (t'.val.width : Nat))).alloc lit) e8) := by
  have l4 := b4.lt
  subst hL ht
  refine ⟨?_, hg, of_old b1 (by omega) (by omega), of_old b2 (by omega) (by omega), ⟨a7, c7, of_p3 b3 (by omega), Own.mono (Own.over_swap ho (by simp) (Nat.le_refl _)) (by simp; omega)⟩, of_p4 b4 (by omega)⟩
  have h3' : w.heap.size ≤ p3 := by omega
  have h4' : w.heap.size ≤ p4 := by omega
  exact ex_into (ex_alloc (ex_setCell (ex_setCell (ex_setCell (ex_setCell (ex_setCell (ex_setCell (ex_setCell (ex_setCell (ex_setCell hov h3' _) h3' _) h4' _) h4' _) h4' _) h4' _) h4' _) h4' _) h4' _) _) _
end
end Go.Proofs.YtojkoijdndinoaaDoor
namespace Go.Proofs.YtojkoijdndinoaaDoor
set_option linter.unusedVariables false
set_option linter.unusedSimpArgs false
open Go.RowKit
attribute [local go_sem] over_drew

def kC1 : List Bool := (ofC [⟨10, 1⟩, ⟨20, 1⟩]).1
def kC2 : List Bool := kC1 ++ (laid ⟨2, 20, 10, ⟨true, 1, 0, 0⟩⟩ 30 1).1
theorem kc1 : ofC [⟨10, 1⟩, ⟨20, 1⟩] = (kC1, ⟨2, 20, 10, ⟨true, 1, 0, 0⟩⟩, 0) := by decide +kernel
theorem kc2 : kC1.length = 138 := by decide +kernel
theorem kc3 : kC2.length = 140 := by decide +kernel
/-- Bits whose number is told, the rest laid out. -/
def CpN (w : World) (L : List Bool) (N : Int) (ev : Value) (en : Ending) (w' : World) : Prop :=
  ∃ a c, en = .returned (.tuple #[bv a (pack L).length c N, ev, .int .u16 0]) ∧ (∃ x, w' = over w x) ∧ SlB w' a c (pack L)
theorem CpOwn.n {w w' : World} {L : List Bool} {e : En} {en : Ending} (h : CpOwn w L e en w') {N : Int} (hN : (L.length : Int) = N) {ev : Value} (ht : e.v = ev) : CpN w L N ev en w' := by
  subst hN ht; obtain ⟨a, c, h1, h2, h3⟩ := h; exact ⟨a, c, h1, h2, (Own.slice' bcs_len h3).2⟩
theorem CoPost.n {w w' : World} {L : List Bool} {e : En} {en : Ending} (h : CoPost w (L, e, 0) en w') {N : Int} (hN : (L.length : Int) = N) {ev : Value} (ht : e.v = ev) : CpN w L N ev en w' := by
  subst hN ht; obtain ⟨a, c, h1, h2, h3⟩ := h; exact ⟨a, c, h1, h2, (Own.slice' bcs_len h3).2⟩

end Go.Proofs.YtojkoijdndinoaaDoor
namespace Go.Proofs.YtojkoijdndinoaaDoor
set_option linter.unusedVariables false
set_option linter.unusedSimpArgs false
open Go.RowKit
attribute [local go_sem] over_drew chg_drew

theorem sample_elem : ElemOf Tryd.prog 32 49 2 16 := elemOf (z := .agg #[.int .i64 0, .int .u64 0]) (by kernel_rfl) (by kernel_rfl) rfl (by decide)
abbrev OwnM (base : Nat) (w : World) (v : Value) (l : List Sm) : Prop := Own base 49 2 Sm.cs w v l

/-- One that comes behind is kept. -/
def rstep (acc : List Sm) (x : Sm) : List Sm := if comes (knowC En.zero acc) x.t then acc ++ [x] else acc
def riseC (xs : List Sm) : List Sm := xs.foldl rstep []
theorem rise_take {xs : List Sm} {k : Nat} (h : k < xs.length) : riseC (xs.take (k + 1)) = rstep (riseC (xs.take k)) xs[k] := by
  rw [takeC_get h]; unfold riseC; rw [List.foldl_append]; rfl
theorem rise_ok (xs : List Sm) (h : ∀ s ∈ xs, s.wf) : (∀ s ∈ riseC xs, s.wf) ∧ goodC En.zero (riseC xs) ∧ (riseC xs).length ≤ xs.length := by
  have key : ∀ (l acc : List Sm), (∀ s ∈ l, s.wf) → (∀ s ∈ acc, s.wf) → goodC En.zero acc → (∀ s ∈ l.foldl rstep acc, s.wf) ∧ goodC En.zero (l.foldl rstep acc) ∧ (l.foldl rstep acc).length ≤ acc.length + l.length := by
    intro l
    induction l with
    | nil => intro acc _ h2 h3; exact ⟨h2, h3, by simp⟩
    | cons x r ih =>
      intro acc h1 h2 h3
      simp only [List.foldl_cons]
      have hx := h1 x (by simp)
      have hr : ∀ s ∈ r, s.wf := fun s hs => h1 s (by simp [hs])
      unfold rstep
      split
      · rename_i hc
        have h4 := ih (acc ++ [x]) hr (by intro s hs; rcases List.mem_append.1 hs with h' | h'; exact h2 s h'; simp at h'; subst h'; exact hx) ((goodC_snoc _ _ _).2 ⟨h3, hc⟩)
        unfold rstep at h4
        exact ⟨h4.1, h4.2.1, by have := h4.2.2; simp at this ⊢; omega⟩
      · have h4 := ih acc hr h2 h3
        unfold rstep at h4
        exact ⟨h4.1, h4.2.1, by have := h4.2.2; simp at this ⊢; omega⟩
  have := key xs [] h (by simp) trivial
  simpa [riseC] using this
theorem comes_get {acc : List Sm} (hw : ∀ s ∈ acc, s.wf) (hl : acc.length ≤ 1000000) (hne : acc.length - 1 < acc.length) (t : Int) : comes (knowC En.zero acc) t ↔ acc[acc.length - 1].t < t := by
  have hn := (knowZ hw hl).2.2
  unfold comes
  rw [hn]
  rcases List.eq_nil_or_concat acc with rfl | ⟨r, s, hrs⟩
  · simp at hne
  · rw [List.concat_eq_append] at hrs
    subst hrs
    rw [knowC_last]
    simp
    omega

theorem Sm.eq_of {x y : Sm} (h1 : x.t = y.t) (h2 : x.v = y.v) : x = y := by cases x; cases y; simp_all
set_option maxRecDepth 100000 in
set_option maxHeartbeats 4000000 in
theorem rcsame_any (xs ys : List Sm) (hl : xs.length ≤ 1000000) (a : Option Addr) (c : Nat) (b : Option Addr) (d : Nat) (w : World) (h1 : SlM w a c xs) (h2 : SlM w b d ys) :
    Calls Tryd.prog 9 #[.slice a xs.length c, .slice b ys.length d] w (Ret w (.bool (decide (xs = ys)))) := by
  by_cases hlen : xs.length = ys.length
  · have HL := hid hlen
    rw [← hlen]
    clear hlen
    go_enter Tryd.func9, Tryd.ntmps9
    go_wp2_with fail
    go_loopw [5] (fun i wr => ∃ (k : Nat), k ≤ xs.length ∧ i = .int .i64 (k : Nat) ∧ Ov w wr ∧ Hid (xs.take k = ys.take k)) (fun i _ => xs.length - (intOf i).toNat)
    case atStart => exact ⟨0, Nat.zero_le _, rfl, (by (try unfold Ov); exact ovA), hid rfl⟩
    case round =>
      obtain ⟨k, hk, rfl, ⟨e0, rfl⟩, HE⟩ := hrel
      by_cases hlt : k < xs.length
      · have hlt2 : k < ys.length := HL.out ▸ hlt
        obtain ⟨b6, o6, rfl, hb6, k0, k1⟩ := SlM.at_ h1 hlt
        obtain ⟨b7, o7, rfl, hb7, j0, j1⟩ := SlM.at_ h2 hlt2
        have hx := hid (takeC_get hlt)
        have hy := hid (takeC_get hlt2)
        by_cases hxy : xs[k] = ys[k]
        · have HN : Hid (xs.take (k + 1) = ys.take (k + 1)) := hid (by rw [hx.out, hy.out, HE.out, hxy])
          rw [← hxy] at j0 j1
          clear hx hy hxy
          generalize xs[k] = x at *
          go_wp2_with fail
          refine wp_region_over (by kernel_rfl) (by kernel_rfl) ?_
          repeat (go_big_quiet_step ((fail)))
          refine wpQuiet_nil ?_
          intro _ hw'
          obtain ⟨nq, rfl⟩ := hw'
          go_wp2_with fail
          go_roundw
          case rel => exact ⟨k + 1, by omega, by go_num, (by (try unfold Ov); exact ovA), HN⟩
          case measure => (simp [intOf]; try omega)
        · have HN : Hid (decide (xs = ys) = false) := hid (decide_eq_false (fun h => hxy (by subst h; rfl)))
          have hd : xs[k].t ≠ ys[k].t ∨ xs[k].v ≠ ys[k].v := by
            by_cases h : xs[k].t = ys[k].t
            · exact .inr fun h' => hxy (Sm.eq_of h h')
            · exact .inl h
          rw [HN.out]
          clear hx hy hxy HN
          generalize xs[k] = x at *
          generalize ys[k] = y at *
          rcases hd with hd | hd
          · have hd' : (x.t == y.t) = false := by simp; exact hd
            go_wp2_with fail
            refine wp_region_over (by kernel_rfl) (by kernel_rfl) ?_
            repeat (go_big_quiet_step ((fail)))
            refine wpQuiet_nil ?_
            intro _ hw'
            obtain ⟨nq, rfl⟩ := hw'
            go_wp2_with fail
            go_ret
            exact ⟨(by (try unfold Ov); exact ovA), rfl⟩
          · have hd' : ((x.v : Int) == (y.v : Int)) = false := by simp; omega
            go_wp2_with fail
            refine wp_region_over (by kernel_rfl) (by kernel_rfl) ?_
            repeat (go_big_quiet_step ((fail)))
            refine wpQuiet_nil ?_
            intro _ hw'
            obtain ⟨nq, rfl⟩ := hw'
            go_wp2_with fail
            go_ret
            exact ⟨(by (try unfold Ov); exact ovA), rfl⟩
      · have HN : Hid (decide (xs = ys) = true) := hid (decide_eq_true (by have h := HE.out; rw [List.take_of_length_le (by omega), List.take_of_length_le (by have := HL.out; omega)] at h; exact h))
        obtain rfl : k = xs.length := by omega
        go_wp2_with fail
        go_ret
        exact ⟨(by (try unfold Ov); exact ovA), by rw [HN.out]; rfl⟩
  · have HN : Hid (decide (xs = ys) = false) := hid (decide_eq_false (fun h => hlen (by rw [h])))
    rw [HN.out]
    have h' : ((xs.length : Int) != (ys.length : Int)) = true := by simp; omega
    go_enter Tryd.func9, Tryd.ntmps9
    go_wp2_with fail
    go_ret
    exact ⟨(by (try unfold Ov); exact ovA), rfl⟩
end Go.Proofs.YtojkoijdndinoaaDoor
