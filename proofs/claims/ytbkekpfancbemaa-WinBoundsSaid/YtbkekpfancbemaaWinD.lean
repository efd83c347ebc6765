/- Walks: the closure that takes pieces out, IndexFunc and DeleteFunc at it. -/
import Derived.Test.YtbkekpfancbemaaWinA
namespace Go.Proofs.Ytbkekpfancbemaa
set_option linter.unusedVariables false
set_option linter.unusedSimpArgs false
open Go.RowKit

/-- What the closure of 'out' leaves at a piece. -/
def OutRes (p : Nat) (most n : Int) (v : Value) (w : World) (b : Bool) (en : Ending) (w' : World) : Prop :=
  en = .returned (.bool b) ∧ ∃ m, w' = chg [p] w m ∧ Blk w' p [.int .i64 most, .int .i64 n, v] 78
theorem OutRes.mk {p : Nat} {most n : Int} {v : Value} {w w' : World} {b : Bool} (hc : Chg [p] w w') (hB : Blk w' p [.int .i64 most, .int .i64 n, v] 78) : OutRes p most n v w b (.returned (.bool b)) w' := by
  obtain ⟨m, hm⟩ := chg_of hc
  exact ⟨rfl, m, hm, hB⟩

set_option maxRecDepth 100000 in
set_option maxHeartbeats 1000000 in
theorem out1_any (fi : Nat) (hE : ∀ args W, (callFunc fi args).run Try.prog W = .ok (.enter fi args) W) (caps : Array Value) (b : Bool) (x : Pc) (p isb wb : Nat) (most n : Int) (v : Value) (w : World)
    (HQ : Hid (∀ W', Ov w W' → Calls Try.prog fi (#[x.v] ++ caps) W' (Ret W' (.bool b))))
    (cI : w.cell? ⟨isb, 0, none⟩ = some (.func (.func fi) #[] caps)) (cW : w.cell? ⟨wb, 0, none⟩ = some (.pointer (some ⟨p, 0, none⟩))) (hI : isb < w.heap.size) (hW : wb < w.heap.size)
    (hB : Blk w p [.int .i64 most, .int .i64 n, v] 78) (h1 : 1 ≤ x.n) (h2 : x.n ≤ 65536) (h3 : b = true → x.n ≤ n) (h4 : n ≤ 3000000) :
    Calls Try.prog 62 #[x.v, .pointer (some ⟨isb, 0, none⟩), .pointer (some ⟨wb, 0, none⟩)] w (OutRes p most (if b then n - x.n else n) v w b) := by
  have H3 := hid h3
  clear h3
  have hp := hB.lt
  have c1 := hB.cell 1 rfl
  have f1 := hB.free 1
  have HB := hid hB
  clear hB
  unfold Pc.v at *
  cases b
  · go_enter Try.func62, Try.ntmps62
    go_wp2_with ((refine (HQ.out _ (by (try unfold Ov); repeat (first | with_reducible exact ex_over | with_reducible exact over_self _ | with_reducible refine ex_into ?_ _ | with_reducible refine ex_alloc ?_ _ | with_reducible refine ex_drew ?_ | ((with_reducible refine ex_setCell ?_ ?_ _); rotate_left; (first | omega | (simp; done) | (simp; omega))) | ((with_reducible refine ex_chg ?_ _ ?_); rotate_left; (first | assumption | (exact Hid.out (by assumption)))) | exact ex_over))).mono ?_); rintro _ _ ⟨⟨e1, rfl⟩, rfl⟩)
    go_ret
    have hB := HB.out
    exact OutRes.mk (by repeat (first | with_reducible exact Chg.refl _ _ | with_reducible refine Chg.alloc ?_ _ | with_reducible refine Chg.drew ?_ | with_reducible refine Chg.on ?_ _ | ((with_reducible refine Chg.setCell ?_ ?_ _); rotate_left; (first | (focus (left; simp; done)) | (focus (right; simp; done)) | (focus (right; simp; omega)) | (focus (left; simp; omega)))) | ((with_reducible refine Chg.in_ ?_ _ ?_); rotate_left; (first | assumption | exact fun i hi => Or.inl hi | (focus (intro i hi; left; simp [hi]; done)) | (focus (intro i hi; left; simp at hi ⊢; simp [hi]; done)) | (focus (intro i hi; simp at hi ⊢; simp [hi]; done)) | (focus (intro i hi; simp at hi ⊢; omega)))))) (by repeat (first | with_reducible assumption | with_reducible refine Blk.alloc ?_ _ | with_reducible refine Blk.drew ?_ | with_reducible refine Blk.on ?_ _ | ((with_reducible refine Blk.chg ?_ (chg_chg _ _ _) ?_); rotate_left; (first | assumption | (focus (simp; done)) | (focus (simp; omega)))) | ((with_reducible refine Blk.set ?_ _ _)) | ((with_reducible refine Blk.set_ne ?_ ?_ _); rotate_left; (first | assumption | (focus (simp; done)) | (focus (simp; omega))))))
  · have hn := H3.out rfl
    go_enter Try.func62, Try.ntmps62
    go_wp2_with ((refine (HQ.out _ (by (try unfold Ov); repeat (first | with_reducible exact ex_over | with_reducible exact over_self _ | with_reducible refine ex_into ?_ _ | with_reducible refine ex_alloc ?_ _ | with_reducible refine ex_drew ?_ | ((with_reducible refine ex_setCell ?_ ?_ _); rotate_left; (first | omega | (simp; done) | (simp; omega))) | ((with_reducible refine ex_chg ?_ _ ?_); rotate_left; (first | assumption | (exact Hid.out (by assumption)))) | exact ex_over))).mono ?_); rintro _ _ ⟨⟨e1, rfl⟩, rfl⟩)
    refine M2.wp_region_mix [6] 6 (by kernel_rfl) (by kernel_rfl) (by decide) ?_
    simp only [List.take_succ_cons, List.take_zero, List.drop_succ_cons, List.drop_zero]
    refine M2.mixL_quiet 6 (by kernel_rfl) ?_
    simp only [List.take_succ_cons, List.take_zero, List.drop_succ_cons, List.drop_zero]
    repeat (go_big_quiet_step (fail))
    refine wpQuiet_nil ?_
    refine M2.mixL_nil ?_
    refine M2.mixL_eff rfl ?_
    go_wp2_with ((go_at_call 49; refine (add64_any p 1 n (-x.n) _ (by go_simp) (by go_simp)).mono ?_; rintro _ _ ⟨rfl, rfl⟩))
    refine M2.MixQ.mk trivial ?_
    refine M2.mixL_nil ?_
    go_wp2_with fail
    go_ret
    have hB := HB.out
    have hs : wrap64 (n + -x.n) = n - x.n := by rw [IntWalk.wrap64_in _ ⟨by omega, by omega⟩]; omega
    rw [hs]
    exact OutRes.mk (by repeat (first | with_reducible exact Chg.refl _ _ | with_reducible refine Chg.alloc ?_ _ | with_reducible refine Chg.drew ?_ | with_reducible refine Chg.on ?_ _ | ((with_reducible refine Chg.setCell ?_ ?_ _); rotate_left; (first | (focus (left; simp; done)) | (focus (right; simp; done)) | (focus (right; simp; omega)) | (focus (left; simp; omega)))) | ((with_reducible refine Chg.in_ ?_ _ ?_); rotate_left; (first | assumption | exact fun i hi => Or.inl hi | (focus (intro i hi; left; simp [hi]; done)) | (focus (intro i hi; left; simp at hi ⊢; simp [hi]; done)) | (focus (intro i hi; simp at hi ⊢; simp [hi]; done)) | (focus (intro i hi; simp at hi ⊢; omega)))))) (Blk.to (cs' := [.int .i64 most, .int .i64 n, v].set 1 (.int .i64 (n - x.n))) (by repeat (first | with_reducible assumption | with_reducible refine Blk.alloc ?_ _ | with_reducible refine Blk.drew ?_ | with_reducible refine Blk.on ?_ _ | ((with_reducible refine Blk.chg ?_ (chg_chg _ _ _) ?_); rotate_left; (first | assumption | (focus (simp; done)) | (focus (simp; omega)))) | ((with_reducible refine Blk.set ?_ _ _)) | ((with_reducible refine Blk.set_ne ?_ ?_ _); rotate_left; (first | assumption | (focus (simp; done)) | (focus (simp; omega)))))) rfl)

set_option maxHeartbeats 400000 in
theorem ack1_any (s : Int) (to : Pl) (x : Pc) (sb tb : Nat) (w : World) (c0 : w.cell? ⟨sb, 0, none⟩ = some (.int .u32 s)) (c1 : w.cell? ⟨tb, 0, none⟩ = some (.int .u32 to.c)) (c2 : w.cell? ⟨tb, 1, none⟩ = some (.int .u32 to.b)) (c3 : w.cell? ⟨tb, 2, none⟩ = some (.int .u32 to.n))
    (hs : sb < w.heap.size) (ht : tb < w.heap.size) : Calls Try.prog 47 #[x.v, .pointer (some ⟨sb, 0, none⟩), .pointer (some ⟨tb, 0, none⟩)] w (Ret w (.bool (ackQ s to x))) := by
  unfold Pc.v
  cases h : (x.s == s)
  · have hq := hid (show ackQ s to x = false by simp at h; simp [ackQ, h])
    go_enter Try.func47, Try.ntmps47
    go_wp2
    go_ret
    exact ⟨(by (try unfold Ov); repeat (first | with_reducible exact ex_over | with_reducible exact over_self _ | with_reducible refine ex_into ?_ _ | with_reducible refine ex_alloc ?_ _ | with_reducible refine ex_drew ?_ | ((with_reducible refine ex_setCell ?_ ?_ _); rotate_left; (first | omega | (simp; done) | (simp; omega))) | ((with_reducible refine ex_chg ?_ _ ?_); rotate_left; (first | assumption | (exact Hid.out (by assumption)))) | exact ex_over)), ret_bool hq.out.symm⟩
  · have hq := hid (show ackQ s to x = !bef to x.t by simp at h; simp [ackQ, h])
    have HB := hid (fun W => before_any to x.t W)
    unfold Pl.v at HB
    go_enter Try.func47, Try.ntmps47
    go_wp2_with (go_at_call 15; (with_reducible refine (HB.out _).mono ?_); rintro _ _ ⟨⟨e1, rfl⟩, rfl⟩)
    go_ret
    exact ⟨(by (try unfold Ov); repeat (first | with_reducible exact ex_over | with_reducible exact over_self _ | with_reducible refine ex_into ?_ _ | with_reducible refine ex_alloc ?_ _ | with_reducible refine ex_drew ?_ | ((with_reducible refine ex_setCell ?_ ?_ _); rotate_left; (first | omega | (simp; done) | (simp; omega))) | ((with_reducible refine ex_chg ?_ _ ?_); rotate_left; (first | assumption | (exact Hid.out (by assumption)))) | exact ex_over)), ret_bool hq.out.symm⟩

set_option maxHeartbeats 400000 in
theorem drop1_any (s : Int) (x : Pc) (sb : Nat) (w : World) (c0 : w.cell? ⟨sb, 0, none⟩ = some (.int .u32 s)) (hs : sb < w.heap.size) : Calls Try.prog 48 #[x.v, .pointer (some ⟨sb, 0, none⟩)] w (Ret w (.bool (dropQ s x))) := by
  unfold Pc.v
  have hq := hid (show dropQ s x = (x.s == s) by simp [dropQ, BEq.beq])
  go_enter Try.func48, Try.ntmps48
  go_wp2
  go_ret
  exact ⟨(by (try unfold Ov); repeat (first | with_reducible exact ex_over | with_reducible exact over_self _ | with_reducible refine ex_into ?_ _ | with_reducible refine ex_alloc ?_ _ | with_reducible refine ex_drew ?_ | ((with_reducible refine ex_setCell ?_ ?_ _); rotate_left; (first | omega | (simp; done) | (simp; omega))) | ((with_reducible refine ex_chg ?_ _ ?_); rotate_left; (first | assumption | (exact Hid.out (by assumption)))) | exact ex_over)), ret_bool hq.out.symm⟩

/-- the first that answers yes -/
def idxQ (q : Pc → Bool) (xs : List Pc) : Nat := (xs.takeWhile fun x => !q x).length
def cutN (q : Pc → Bool) (n : Int) (xs : List Pc) (i : Nat) : Int := if h : i < xs.length then n - xs[i].n else n
/-- none among the first k -/
def noneTo (q : Pc → Bool) (xs : List Pc) (k : Nat) : Prop := ∀ i (_ : i < k) (h : i < xs.length), q xs[i] = false
theorem noneTo_zero (q : Pc → Bool) (xs : List Pc) : noneTo q xs 0 := fun i h => absurd h (Nat.not_lt_zero i)
theorem noneTo_succ {q : Pc → Bool} {xs : List Pc} {k : Nat} (h : noneTo q xs k) (hk : k < xs.length) (h2 : q xs[k] = false) : noneTo q xs (k + 1) := by
  intro i hi hl
  rcases Nat.lt_or_ge i k with hlt | hge
  · exact h i hlt hl
  · obtain rfl : i = k := by omega
    exact h2
theorem noneTo_out {q : Pc → Bool} {xs : List Pc} {k : Nat} (h : noneTo q xs k) (hk : k ≤ xs.length) : outW q (xs.take k) = xs.take k := by
  unfold outW
  rw [List.filter_eq_self]
  intro x hx
  obtain ⟨i, hi, rfl⟩ := List.mem_iff_getElem.1 hx
  simp only [List.length_take] at hi
  rw [List.getElem_take, h i (by omega) (by omega)]; rfl

/-- What IndexFunc leaves at such a closure. -/
def IdxRes (q : Pc → Bool) (xs : List Pc) (p : Nat) (most n : Int) (v : Value) (w : World) (en : Ending) (w' : World) : Prop :=
  ∃ m, w' = chg [p] w m ∧ ((∃ (i : Nat) (h : i < xs.length), en = .returned (.int .i64 i) ∧ noneTo q xs i ∧ q xs[i] = true ∧ Blk w' p [.int .i64 most, .int .i64 (n - xs[i].n), v] 78) ∨
    (en = .returned (.int .i64 (-1)) ∧ noneTo q xs xs.length ∧ Blk w' p [.int .i64 most, .int .i64 n, v] 78))
end Go.Proofs.Ytbkekpfancbemaa
