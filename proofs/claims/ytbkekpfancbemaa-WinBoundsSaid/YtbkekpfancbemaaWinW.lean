/- Walks: Before, the atomic calls, and those that only read a window. -/
import Derived.Test.YtbkekpfancbemaaRows
import Derived.Test.YtbkekpfancbemaaWinP
import Derived.Test.YtbkekpfancbemaaMem
import Derived.Test.YtbkekpfancbemaaMix2
import Derived.Laws.LoneSync
namespace Go.Proofs.Ytbkekpfancbemaa
set_option linter.unusedVariables false
set_option linter.unusedSimpArgs false
open Go.RowKit

set_option maxHeartbeats 400000 in
theorem before_any (a b : Pl) (w : World) : Calls Try.prog 15 #[a.v, b.v] w (Ret w (.bool (bef a b))) := by
  unfold Pl.v
  cases h : (a.c != b.c)
  · have hb := hid (show bef a b = decide (a.n < b.n) by simp at h; simp [bef, h])
    go_enter Try.func15, Try.ntmps15
    go_wp2
    go_ret
    exact ⟨(by (try unfold Ov); repeat (first | with_reducible exact ex_over | with_reducible exact over_self _ | with_reducible refine ex_into ?_ _ | with_reducible refine ex_alloc ?_ _ | with_reducible refine ex_drew ?_ | ((with_reducible refine ex_setCell ?_ ?_ _); rotate_left; (first | omega | (simp; done) | (simp; omega))) | ((with_reducible refine ex_chg ?_ _ ?_); rotate_left; (first | assumption | (exact Hid.out (by assumption)))) | exact ex_over)), ret_bool hb.out.symm⟩
  · have hb := hid (show bef a b = decide (a.c < b.c) by simp at h; simp [bef, h])
    go_enter Try.func15, Try.ntmps15
    go_wp2
    go_ret
    exact ⟨(by (try unfold Ov); repeat (first | with_reducible exact ex_over | with_reducible exact over_self _ | with_reducible refine ex_into ?_ _ | with_reducible refine ex_alloc ?_ _ | with_reducible refine ex_drew ?_ | ((with_reducible refine ex_setCell ?_ ?_ _); rotate_left; (first | omega | (simp; done) | (simp; omega))) | ((with_reducible refine ex_chg ?_ _ ?_); rotate_left; (first | assumption | (exact Hid.out (by assumption)))) | exact ex_over)), ret_bool hb.out.symm⟩

set_option maxHeartbeats 400000 in
theorem load64_any (p o : Nat) (n : Int) (w : World) (hc : w.cell? ⟨p, o, none⟩ = some (.int .i64 n)) : Calls Try.prog 54 #[.pointer (some ⟨p, o, none⟩)] w fun en w' => en = .returned (.int .i64 n) ∧ w = w' := by
  have hl := run_call_load (P := Try.prog) Try.func65 (by kernel_rfl) (by kernel_rfl) (by kernel_rfl) .i64 (by kernel_rfl) hc
  go_enter Try.func54, Try.ntmps54
  go_wp2
  go_ret
  exact ⟨rfl, rfl⟩

set_option maxHeartbeats 400000 in
theorem add64_any (p o : Nat) (n d : Int) (w : World) (hc : w.cell? ⟨p, o, none⟩ = some (.int .i64 n)) (hf : w.frozen? ⟨p, o, none⟩ = false) : Calls Try.prog 49 #[.pointer (some ⟨p, o, none⟩), .int .i64 d] w fun en w' => en = .returned (.int .i64 (wrap64 (n + d))) ∧ w' = w.setCell ⟨p, o, none⟩ (.int .i64 (wrap64 (n + d))) := by
  have hl := run_call_add (P := Try.prog) Try.func63 (by kernel_rfl) (by kernel_rfl) (by kernel_rfl) .i64 (by kernel_rfl) (y := d) (s := wrap64 (n + d)) hc hf (by simp [go_sem, wrap64, IntKind.wrap_i64])
  go_enter Try.func49, Try.ntmps49
  go_wp2
  go_ret
  exact ⟨rfl, rfl⟩

/-- A window in memory: its blocks F, from 'base' on. -/
def WinAt (base : Nat) (w : World) (p : Nat) (most : Int) (xs : List Pc) (F : List Nat) : Prop :=
  ∃ v, Blk w p [.int .i64 most, .int .i64 (sumN xs), v] 78 ∧ Own base 32 8 Pc.cs w v xs ∧ base ≤ p ∧ v.ownBlock ≠ some p ∧ F = p :: v.ownBlock.toList

theorem piece_elem : ElemOf Try.prog 30 32 8 40 := elemOf (z := .agg #[.int .u32 0, .int .u32 0, .int .u32 0, .int .u32 0, .int .u32 0, .int .u32 0, .int .u32 0, .int .i64 0]) (by kernel_rfl) (by kernel_rfl) rfl (by decide)

theorem WinAt.chg {base : Nat} {w w' : World} {p : Nat} {most : Int} {xs : List Pc} {F G : List Nat} (h : WinAt base w p most xs F) (hc : Chg G w w') (hd : ∀ k ∈ F, k ∉ G) : WinAt base w' p most xs F := by
  obtain ⟨v, h1, h2, h3, h4, rfl⟩ := h
  exact ⟨v, h1.chg hc (hd p (by simp)), h2.chg hc (fun g hg => hd g (by simp [hg])), h3, h4, rfl⟩
theorem WinAt.lt {base : Nat} {w : World} {p : Nat} {most : Int} {xs : List Pc} {F : List Nat} (h : WinAt base w p most xs F) : ∀ k ∈ F, base ≤ k ∧ k < w.heap.size := by
  obtain ⟨v, h1, h2, h3, h4, rfl⟩ := h
  intro k hk
  rcases List.mem_cons.1 hk with rfl | hk
  · exact ⟨h3, h1.lt⟩
  · exact h2.lt (by simpa using hk)

/-- What a call on a window leaves. -/
def WDid (base : Nat) (w : World) (p : Nat) (most : Int) (F : List Nat) (v : Value) (xs' : List Pc) (en : Ending) (w' : World) : Prop :=
  en = .returned v ∧ ∃ m F', w' = chg F w m ∧ WinAt base w' p most xs' F' ∧ ∀ k ∈ F', k ∈ F ∨ w.heap.size ≤ k

set_option maxHeartbeats 400000 in
theorem winIn_any {base : Nat} {w : World} {p : Nat} {most : Int} {xs : List Pc} {F : List Nat} (h : WinAt base w p most xs F) : Calls Try.prog 25 #[.pointer (some ⟨p, 0, none⟩)] w (Ret w (.int .i64 (sumN xs))) := by
  obtain ⟨v, h1, _⟩ := h
  have hl := hid (load64_any p 1 _ w (h1.cell 1 rfl))
  clear h1
  go_enter Try.func25, Try.ntmps25
  go_wp2_with (go_at_call 54; refine hl.out.mono ?_; rintro _ _ ⟨rfl, rfl⟩)
  go_ret
  exact ⟨(by (try unfold Ov); repeat (first | with_reducible exact ex_over | with_reducible exact over_self _ | with_reducible refine ex_into ?_ _ | with_reducible refine ex_alloc ?_ _ | with_reducible refine ex_drew ?_ | ((with_reducible refine ex_setCell ?_ ?_ _); rotate_left; (first | omega | (simp; done) | (simp; omega))) | ((with_reducible refine ex_chg ?_ _ ?_); rotate_left; (first | assumption | (exact Hid.out (by assumption)))) | exact ex_over)), rfl⟩

set_option maxHeartbeats 400000 in
theorem winRoom_any {base : Nat} {w : World} {p : Nat} {most : Int} {xs : List Pc} {F : List Nat} (h : WinAt base w p most xs F) : Calls Try.prog 27 #[.pointer (some ⟨p, 0, none⟩)] w (Ret w (.bool (decide (sumN xs < most)))) := by
  obtain ⟨v, h1, _⟩ := h
  have hp := h1.lt
  have c0 := h1.cell 0 rfl
  have hl : Hid (∀ e, Calls Try.prog 54 #[.pointer (some ⟨p, 1, none⟩)] (over w e) fun en w' => en = .returned (.int .i64 (sumN xs)) ∧ ∃ m, w' = over w m) := fun e => by
    refine (load64_any p 1 (sumN xs) _ ?_).mono ?_
    · rw [cell_over _ _ _ _ hp]; exact h1.cell 1 rfl
    · rintro _ _ ⟨rfl, rfl⟩; exact ⟨rfl, e, rfl⟩
  clear h1
  go_enter Try.func27, Try.ntmps27
  go_wp2
  refine wp_region_over (by kernel_rfl) (by kernel_rfl) ?_
  repeat (go_big_quiet_step ((go_at_call 54; exact hl.out _)))
  refine wpQuiet_nil ?_
  intro _ hw'
  obtain ⟨nq, rfl⟩ := hw'
  go_wp2
  go_ret
  exact ⟨(by (try unfold Ov); repeat (first | with_reducible exact ex_over | with_reducible exact over_self _ | with_reducible refine ex_into ?_ _ | with_reducible refine ex_alloc ?_ _ | with_reducible refine ex_drew ?_ | ((with_reducible refine ex_setCell ?_ ?_ _); rotate_left; (first | omega | (simp; done) | (simp; omega))) | ((with_reducible refine ex_chg ?_ _ ?_); rotate_left; (first | assumption | (exact Hid.out (by assumption)))) | exact ex_over)), rfl⟩

set_option maxHeartbeats 400000 in
theorem cloneP_any (xs : List Pc) (a : Option Addr) (cap : Nat) (w : World) (hs : SlP w a cap xs) (hb : xs.length ≤ 2000000) :
    Calls Try.prog 50 #[.slice a xs.length cap] w (Gives w fun v w' => Own w.heap.size 32 8 Pc.cs w' v xs) := by
  rcases a with _ | ad
  · obtain rfl : cap = 0 := hs.nul rfl
    obtain rfl : xs = [] := by
      cases xs with
      | nil => rfl
      | cons x l => obtain ⟨b, off, h, _⟩ := hs.rec_ 0 x rfl; cases h
    have q := fun (W : World) => run_eql_slice_nil0 (P := Try.prog) (t := 30) piece_elem.ht W none 0 0
    go_enter Try.func50, Try.ntmps50
    go_wp2
    go_ret
    exact ⟨over_self w, _, rfl, Own.nil w⟩
  · have q := fun (W : World) => run_eql_slice_nil0 (P := Try.prog) (t := 30) piece_elem.ht W (some ad) xs.length cap
    go_enter Try.func50, Try.ntmps50
    go_wp2_with (at_builtin; refine wpList_append piece_elem Pc.cs_len Pc.cs_one rfl (.tmp 5) (.tmp 6) rfl (B := w) (ys := []) (xs := xs) (Own.made _) rfl rfl (over_self _) (by (try unfold Ov); repeat (first | with_reducible exact ex_over | with_reducible exact over_self _ | with_reducible refine ex_into ?_ _ | with_reducible refine ex_alloc ?_ _ | with_reducible refine ex_drew ?_ | ((with_reducible refine ex_setCell ?_ ?_ _); rotate_left; (first | omega | (simp; done) | (simp; omega))) | ((with_reducible refine ex_chg ?_ _ ?_); rotate_left; (first | assumption | (exact Hid.out (by assumption)))) | exact ex_over)) (Nat.le_refl _) (by simp) (by repeat (first | with_reducible exact hs | with_reducible refine Sl.over ?_ _ | with_reducible refine Sl.alloc ?_ _ | with_reducible refine Sl.drew ?_ | exact hs)) (by unfold maxLen; simp; omega) (by simp; omega) ?_; intro v' x' hown' _ _)
    go_ret
    exact ⟨(by (try unfold Ov); repeat (first | with_reducible exact ex_over | with_reducible exact over_self _ | with_reducible refine ex_into ?_ _ | with_reducible refine ex_alloc ?_ _ | with_reducible refine ex_drew ?_ | ((with_reducible refine ex_setCell ?_ ?_ _); rotate_left; (first | omega | (simp; done) | (simp; omega))) | ((with_reducible refine ex_chg ?_ _ ?_); rotate_left; (first | assumption | (exact Hid.out (by assumption)))) | exact ex_over)), _, rfl, hown'⟩

set_option maxHeartbeats 400000 in
theorem winPieces_any {base : Nat} {w : World} {p : Nat} {most : Int} {xs : List Pc} {F : List Nat} (h : WinAt base w p most xs F) (hb : xs.length ≤ 2000000) : Calls Try.prog 22 #[.pointer (some ⟨p, 0, none⟩)] w (Gives w fun v w' => Own w.heap.size 32 8 Pc.cs w' v xs) := by
  obtain ⟨v, h1, h2, _⟩ := h
  obtain ⟨a, c, rfl, hs⟩ := Own.slice Pc.cs_len h2
  have c2 := h1.cell 2 rfl
  have hl := hid (cloneP_any xs a c w hs hb)
  clear h1 h2
  go_enter Try.func22, Try.ntmps22
  go_wp2_with (go_at_call 50; refine hl.out.mono ?_; rintro _ _ ⟨⟨e, rfl⟩, v, rfl, o⟩)
  go_ret
  exact ⟨(by (try unfold Ov); repeat (first | with_reducible exact ex_over | with_reducible exact over_self _ | with_reducible refine ex_into ?_ _ | with_reducible refine ex_alloc ?_ _ | with_reducible refine ex_drew ?_ | ((with_reducible refine ex_setCell ?_ ?_ _); rotate_left; (first | omega | (simp; done) | (simp; omega))) | ((with_reducible refine ex_chg ?_ _ ?_); rotate_left; (first | assumption | (exact Hid.out (by assumption)))) | exact ex_over)), _, rfl, o⟩
end Go.Proofs.Ytbkekpfancbemaa
