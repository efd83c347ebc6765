import Derived.Test.YtoolooffpphmdaaGreatDoorNI
import Derived.Test.YtoolooffpphmdaaGreatDoorRows
namespace Go.Proofs.YtoolooffpphmdaaGreatDoor
set_option linter.unusedVariables false
set_option linter.unusedSimpArgs false
set_option maxHeartbeats 2000000
section
open Go.RowKit
structure Sp where
 f : Int
 t : Int
 deriving Inhabited, DecidableEq
namespace Sp
def cs (x : Sp) : List Value := [.int .i64 x.f, .int .i64 x.t]
abbrev v (x : Sp) : Value := .agg #[.int .i64 x.f, .int .i64 x.t]
def wf (x : Sp) : Prop := -9223372036854775808 ≤ x.f ∧ x.f ≤ 9223372036854775807 ∧ -9223372036854775808 ≤ x.t ∧ x.t ≤ 9223372036854775807
theorem cs_len (x : Sp) : x.cs.length = 2 := rfl
end Sp
abbrev SlS (w : World) (a : Option Addr) (cap : Nat) (xs : List Sp) : Prop := Sl 2 Sp.cs w a cap xs
theorem SlS.at_ {w : World} {a : Option Addr} {cap : Nat} {xs : List Sp} (h : SlS w a cap xs) {k : Nat} (hk : k < xs.length) :
    ∃ b off, a = some ⟨b, off, none⟩ ∧ b < w.heap.size ∧ w.cell? ⟨b, off + k * 2, none⟩ = some (.int .i64 xs[k].f) ∧ w.cell? ⟨b, off + k * 2 + 1, none⟩ = some (.int .i64 xs[k].t) := by
  obtain ⟨b, off, rfl, hb, hcell⟩ := h.rec_ k xs[k] (List.getElem?_eq_getElem hk); exact ⟨b, off, rfl, hb, hcell 0 _ rfl, hcell 1 _ rfl⟩
def apartB (a b : Sp) : Bool := decide (a.t + 1 < b.f)
def spSoundB : List Sp → Bool
  | [] => true
  | x :: l => decide (x.f ≤ x.t) && (match l with | [] => true | y :: _ => apartB x y) && spSoundB l
theorem spSoundB_iff : ∀ xs : List Sp, spSoundB xs = true ↔ ∀ i (h : i < xs.length), xs[i].f ≤ xs[i].t ∧ (0 < i → apartB xs[i - 1] xs[i] = true)
  | [] => by simp [spSoundB]
  | [x] => by
   simp [spSoundB]
  | x :: y :: l => by
   have ih := spSoundB_iff (y :: l); simp only [spSoundB, Bool.and_eq_true, decide_eq_true_eq] at ih ⊢
   constructor
   · rintro ⟨⟨h1, h2⟩, h3⟩ i hi; have h4 := ih.1 h3; rcases i with _ | i
     · exact ⟨h1, fun h => absurd h (Nat.lt_irrefl _)⟩
     · obtain ⟨h5, h6⟩ := h4 i (by simpa using hi); refine ⟨by simpa using h5, fun _ => ?_⟩; rcases i with _ | i
       · simpa using h2
       · simpa using h6 (by omega)
   · intro h; refine ⟨⟨(h 0 (by simp)).1, (h 1 (by simp)).2 (by omega)⟩, ih.2 fun i hi => ?_⟩; obtain ⟨h5, h6⟩ := h (i + 1) (by simpa using hi); refine ⟨by simpa using h5, fun h0 => ?_⟩; rcases i with _ | i
     · omega
     · simpa using h6 (by omega)
theorem spSoundB_bad1 {xs : List Sp} {k : Nat} (hk : k < xs.length) (h : decide (xs[k].t < xs[k].f) = true) : spSoundB xs = false := by
 cases hs : spSoundB xs with
 | false => rfl
 | true => have h1 := ((spSoundB_iff xs).1 hs k hk).1; have h2 := of_decide_eq_true h; omega
theorem spSoundB_bad2 {xs : List Sp} {k : Nat} (hk : k < xs.length) (h0 : 0 < k) (h : apartB xs[k - 1] xs[k] = false) : spSoundB xs = false := by
 cases hs : spSoundB xs with
 | false => rfl
 | true => have h1 := ((spSoundB_iff xs).1 hs k hk).2 h0; rw [h] at h1; cases h1
def soundTo (xs : List Sp) (k : Nat) : Prop := ∀ i (_ : i < k) (h : i < xs.length), xs[i].f ≤ xs[i].t ∧ (0 < i → apartB xs[i - 1] xs[i] = true)
theorem soundTo_zero (xs : List Sp) : soundTo xs 0 := fun i h => absurd h (Nat.not_lt_zero i)
theorem soundTo_succ {xs : List Sp} {k : Nat} (h : soundTo xs k) (hk : k < xs.length) (h1 : decide (xs[k].t < xs[k].f) = false) (h2 : 0 < k → apartB xs[k - 1] xs[k] = true) : soundTo xs (k + 1) := by
 intro i hi hl; rcases Nat.lt_or_ge i k with hlt | hge
 · exact h i hlt hl
 · obtain rfl : i = k := by omega
   have := of_decide_eq_false h1; exact ⟨by omega, h2⟩
theorem soundTo_all {xs : List Sp} {k : Nat} (h : soundTo xs k) (hk : ¬ k < xs.length) : spSoundB xs = true :=
 (spSoundB_iff xs).2 fun i hi => h i (by omega) hi
/-! ### What the calls compute -/
def mrg (s x : Sp) : Sp := ⟨if x.f < s.f then x.f else s.f, if s.t < x.t then x.t else s.t⟩
def addGo : List Sp → Sp → List Sp → List Sp
  | [], s, out => out ++ [s]
  | x :: l, s, out =>
   if apartB x s then addGo l s (out ++ [x])
   else if apartB s x then addGo l x (out ++ [s])
   else addGo l (mrg s x) out
theorem mrg_wf {s x : Sp} (h : s.wf) (h' : x.wf) : (mrg s x).wf := by unfold Sp.wf mrg at *; simp only; split <;> split <;> omega
def okSp (l : List Sp) (s : Sp) : Bool := spSoundB l && decide (s.f ≤ s.t)
def addS (l : List Sp) (s : Sp) : List Sp := if okSp l s then addGo l s [] else []
def hasS (l : List Sp) (t : Int) : Bool := l.any fun s => decide (s.f ≤ t) && decide (t ≤ s.t)
theorem take_snoc' {α : Type} {xs : List α} {k : Nat} (h : k < xs.length) : xs.take (k + 1) = xs.take k ++ [xs[k]] := by
 rw [List.take_succ_eq_append_getElem h]
theorem same_end {xs ys : List Sp} {k : Nat} (hl : xs.length = ys.length) (h : xs.take k = ys.take k) (hk : ¬ k < xs.length) : decide (xs = ys) = true := by
 rw [List.take_of_length_le (by omega), List.take_of_length_le (by omega)] at h; simp [h]
theorem same_step {xs ys : List Sp} {k : Nat} (h : xs.take k = ys.take k) (h1 : k < xs.length) (h2 : k < ys.length) (he : xs[k] = ys[k]) : xs.take (k + 1) = ys.take (k + 1) := by
 rw [take_snoc' h1, take_snoc' h2, h, he]
theorem same_no {xs ys : List Sp} {k : Nat} (h1 : k < xs.length) (h2 : k < ys.length) (he : ¬ xs[k] = ys[k]) : decide (xs = ys) = false := by
 rw [decide_eq_false_iff_not]; intro h; subst h; exact he rfl
theorem same_len {xs ys : List Sp} (h : (((xs.length : Nat) : Int) != ((ys.length : Nat) : Int)) = true) : decide (xs = ys) = false := by
 rw [decide_eq_false_iff_not]; intro hh; subst hh; simp at h
end
section
open Go.RowKit
theorem spNext_any (t : Int) (w : World) :
    Calls Tryz.prog 120 #[.int .i64 t] w fun e w' => e = .returned (.tuple #[.int .i64 (wrap64 (t+1)), .bool (decide (t < 9223372036854775807))]) ∧ w = w' := by
    go_enter Tryz.func120, Tryz.ntmps120; go_wp2; go_ret2
    exact ⟨rfl, rfl⟩
theorem apart_any (a b : Sp) (ha : a.wf) (hb : b.wf) (w : World) :
    Calls Tryz.prog 86 #[a.v, b.v] w (Ret w (.bool (apartB a b))) := by
  obtain ⟨af, a⟩ := a; obtain ⟨b, bt⟩ := b; have ha := ha; have hb := hb; unfold Sp.wf at ha hb; unfold Sp.v; by_cases h : a < 9223372036854775807
  · go_enter Tryz.func86, Tryz.ntmps86; go_wp2_with (go_at_call 120; refine (spNext_any _ _).mono ?_; rintro e w' ⟨rfl, rfl⟩)
    go_ret
    have h2 : wrap64 (a + 1) = a + 1 := IntWalk.wrap64_in _ ⟨by omega, by omega⟩; exact ⟨ex_alloc (ex_alloc (ovs w) _) _, rtb (by rw [h2]; rfl)⟩
  · go_enter Tryz.func86, Tryz.ntmps86; go_wp2_with (go_at_call 120; refine (spNext_any _ _).mono ?_; rintro e w' ⟨rfl, rfl⟩)
    go_ret
    exact ⟨ex_alloc (ex_alloc (ovs w) _) _, rtb (show false = decide (a + 1 < b) from (decide_eq_false (by omega)).symm)⟩
theorem spSound_any (xs : List Sp) (hwf : ∀ x ∈ xs, x.wf) (a : Option Addr) (cap : Nat) (w : World) (hs : SlS w a cap xs) :
    Calls Tryz.prog 85 #[.slice a xs.length cap] w (Ret w (.bool (spSoundB xs))) := by
  have hmax : xs.length ≤ 9223372036854775807 := by have := hs.le; have := hs.max; unfold maxLen at *; omega
  go_enter Tryz.func85, Tryz.ntmps85; go_wp2
  go_loopw [7] (fun i wr => ∃ (k : Nat), k ≤ xs.length ∧ i = .int .i64 k ∧ Ov w wr ∧ Hid (soundTo xs k)) (fun i _ => xs.length - (intOf i).toNat)
  case atStart =>
   exact ⟨0, Nat.zero_le _, rfl, ovs w, hid (soundTo_zero xs)⟩
  case round =>
   obtain ⟨k, hk, rfl, ⟨e, rfl⟩, hto⟩ := hrel; by_cases hlt : k < xs.length
   · obtain ⟨b, off, rfl, hb, c0, c1⟩ := hs.at_ hlt; cases hft : decide (xs[k].t < xs[k].f)
     rotate_left
     · have Hft := hid hft; go_wp2; refine wro (by kernel_rfl) (by kernel_rfl) ?_; repeat (go_big_quiet_step (fail))
       refine wpQuiet_nil ?_; intro _ hw'; obtain ⟨nq, rfl⟩ := hw'; go_wp2; go_ret
       exact ⟨ovL, rtb (spSoundB_bad1 hlt Hft.out).symm⟩
     · have Hft := hid hft; by_cases hk0 : k = 0
       · have h0 : decide (0 < k) = false := by simp; omega
         clear hk0; go_wp2; refine wro (by kernel_rfl) (by kernel_rfl) ?_; repeat (go_big_quiet_step (fail))
         refine wpQuiet_nil ?_; intro _ hw'; obtain ⟨nq, rfl⟩ := hw'; go_wp2; go_roundw
         case rel =>
          exact ⟨k + 1, by omega, by go_num, ovL, hid (soundTo_succ hto.out hlt Hft.out (fun h => absurd h (of_decide_eq_false h0)))⟩
         case measure => simp [intOf]; omega
       · have h0 : decide (0 < k) = true := by simp; omega
         have hk1 : 1 ≤ k := by omega
         obtain ⟨b', off', e0, _, c2, c3⟩ := hs.at_ (show k - 1 < xs.length by omega)
         injection e0 with e0; injection e0 with e0 e1; subst e0 e1
         clear hk0; cases hap : apartB xs[k-1] xs[k]
         · have HA := hid (fun W => hap ▸ apart_any _ _ (hwf _ (List.getElem_mem (show k - 1 < xs.length by omega))) (hwf _ (List.getElem_mem hlt)) W); have Hap := hid hap; clear hap; go_wp2; refine wro (by kernel_rfl) (by kernel_rfl) ?_; repeat (go_big_quiet_step ((go_at_call 86; exact quiet_over (HA.out _))))
           refine wpQuiet_nil ?_; intro _ hw'; obtain ⟨nq, rfl⟩ := hw'; go_wp2; go_ret
           exact ⟨ovL, rtb (spSoundB_bad2 hlt hk1 Hap.out).symm⟩
         · have HA := hid (fun W => hap ▸ apart_any _ _ (hwf _ (List.getElem_mem (show k - 1 < xs.length by omega))) (hwf _ (List.getElem_mem hlt)) W); have Hap := hid hap; clear hap; go_wp2; refine wro (by kernel_rfl) (by kernel_rfl) ?_; repeat (go_big_quiet_step ((go_at_call 86; exact quiet_over (HA.out _))))
           refine wpQuiet_nil ?_; intro _ hw'; obtain ⟨nq, rfl⟩ := hw'; go_wp2; go_roundw
           case rel =>
            exact ⟨k + 1, by omega, by go_num, ovL, hid (soundTo_succ hto.out hlt Hft.out (fun _ => Hap.out))⟩
           case measure => simp [intOf]; omega
   · go_wp2; go_ret
     exact ⟨ex_over, rtb (soundTo_all hto.out hlt).symm⟩
end
section
open Go.RowKit
theorem apart_ref {a b : Sp} (ha : a.wf) (hb : b.wf) (h1 : decide (b.f ≤ a.t) = false) (h2 : (b.f == wrap64 (a.t + 1)) = false) : apartB a b = true := by
 have h1 := of_decide_eq_false h1; unfold Sp.wf at ha hb; rw [IntWalk.wrap64_in _ ⟨by omega, by omega⟩] at h2; simp at h2; unfold apartB; simp; omega
theorem apart_ref1 {a b : Sp} (h1 : decide (b.f ≤ a.t) = true) : apartB a b = false := by
 have h1 := of_decide_eq_true h1; unfold apartB; simp; omega
theorem apart_ref2 {a b : Sp} (ha : a.wf) (hb : b.wf) (h1 : decide (b.f ≤ a.t) = false) (h2 : (b.f == wrap64 (a.t + 1)) = true) : apartB a b = false := by
 have h1 := of_decide_eq_false h1; unfold Sp.wf at ha hb; rw [IntWalk.wrap64_in _ ⟨by omega, by omega⟩] at h2; simp at h2; unfold apartB; simp; omega
theorem spRsound_any (xs : List Sp) (hwf : ∀ x ∈ xs, x.wf) (a : Option Addr) (cap : Nat) (w : World) (hs : SlS w a cap xs) :
    Calls Tryz.prog 88 #[.slice a xs.length cap] w (Ret w (.bool (spSoundB xs))) := by
  have hmax := len_max hs
  go_enter Tryz.func88, Tryz.ntmps88; go_wp2
  go_loopw [3] (fun i wr => ∃ (k : Nat), k ≤ xs.length ∧ i = .int .i64 k ∧ Ov w wr ∧ Hid (soundTo xs k)) (fun i _ => xs.length - (intOf i).toNat)
  case atStart =>
   exact ⟨0, Nat.zero_le _, rfl, ovs w, hid (soundTo_zero xs)⟩
  case round =>
   obtain ⟨k, hk, rfl, ⟨e, rfl⟩, hto⟩ := hrel; by_cases hlt : k < xs.length
   · obtain ⟨b, off, rfl, hb, c0, c1⟩ := hs.at_ hlt; cases hft : decide (xs[k].t < xs[k].f)
     rotate_left
     · have Hft := hid hft; go_wp2; refine wro (by kernel_rfl) (by kernel_rfl) ?_; repeat (go_big_quiet_step (fail))
       refine wpQuiet_nil ?_; intro _ hw'; obtain ⟨nq, rfl⟩ := hw'; go_wp2; go_ret
       exact ⟨ovL, rtb (spSoundB_bad1 hlt Hft.out).symm⟩
     · have Hft := hid hft; by_cases hk0 : k = 0
       · have h0 : decide (0 < k) = false := by simp; omega
         clear hk0; go_wp2; refine wro (by kernel_rfl) (by kernel_rfl) ?_; repeat (go_big_quiet_step (fail))
         refine wpQuiet_nil ?_; intro _ hw'; obtain ⟨nq, rfl⟩ := hw'; go_wp2; refine wro (by kernel_rfl) (by kernel_rfl) ?_; repeat (go_big_quiet_step (fail))
         refine wpQuiet_nil ?_; intro _ hw'; obtain ⟨nq, rfl⟩ := hw'; go_wp2; go_roundw
         case rel =>
          exact ⟨k + 1, by omega, by go_num, ovL, hid (soundTo_succ hto.out hlt Hft.out (fun h => absurd h (of_decide_eq_false h0)))⟩
         case measure => simp [intOf]; omega
       · have h0 : decide (0 < k) = true := by simp; omega
         have hk1 : 1 ≤ k := by omega
         obtain ⟨b', off', e0, _, c2, c3⟩ := hs.at_ (show k - 1 < xs.length by omega)
         injection e0 with e0; injection e0 with e0 e1; subst e0 e1
         clear hk0; have w0 := hid (hwf _ (List.getElem_mem (show k - 1 < xs.length by omega))); have w1 := hid (hwf _ (List.getElem_mem hlt)); cases h1 : decide (xs[k].f ≤ xs[k-1].t)
         · cases h2 : (xs[k].f == wrap64 (xs[k-1].t + 1))
           · have Hap := hid (apart_ref w0.out w1.out h1 h2); go_wp2; refine wro (by kernel_rfl) (by kernel_rfl) ?_; repeat (go_big_quiet_step (fail))
             refine wpQuiet_nil ?_; intro _ hw'; obtain ⟨nq, rfl⟩ := hw'; go_wp2; refine wro (by kernel_rfl) (by kernel_rfl) ?_; repeat (go_big_quiet_step (fail))
             refine wpQuiet_nil ?_; intro _ hw'; obtain ⟨nq, rfl⟩ := hw'; go_wp2; go_roundw
             case rel =>
              exact ⟨k + 1, by omega, by go_num, ovL, hid (soundTo_succ hto.out hlt Hft.out (fun _ => Hap.out))⟩
             case measure => simp [intOf]; omega
           · have Hap := hid (apart_ref2 w0.out w1.out h1 h2); go_wp2; refine wro (by kernel_rfl) (by kernel_rfl) ?_; repeat (go_big_quiet_step (fail))
             refine wpQuiet_nil ?_; intro _ hw'; obtain ⟨nq, rfl⟩ := hw'; go_wp2; refine wro (by kernel_rfl) (by kernel_rfl) ?_; repeat (go_big_quiet_step (fail))
             refine wpQuiet_nil ?_; intro _ hw'; obtain ⟨nq, rfl⟩ := hw'; go_wp2; go_ret
             exact ⟨ovL, rtb (spSoundB_bad2 hlt hk1 Hap.out).symm⟩
         · have Hap := hid (apart_ref1 h1); go_wp2; refine wro (by kernel_rfl) (by kernel_rfl) ?_; repeat (go_big_quiet_step (fail))
           refine wpQuiet_nil ?_; intro _ hw'; obtain ⟨nq, rfl⟩ := hw'; go_wp2; refine wro (by kernel_rfl) (by kernel_rfl) ?_; repeat (go_big_quiet_step (fail))
           refine wpQuiet_nil ?_; intro _ hw'; obtain ⟨nq, rfl⟩ := hw'; go_wp2; go_ret
           exact ⟨ovL, rtb (spSoundB_bad2 hlt hk1 Hap.out).symm⟩
   · go_wp2; go_ret
     exact ⟨ex_over, rtb (soundTo_all hto.out hlt).symm⟩
theorem neq_span (W : World) (x y : Sp) : (binOp .neq 25 (.agg #[.int .i64 x.f, .int .i64 x.t]) (.agg #[.int .i64 y.f, .int .i64 y.t])).run Tryz.prog W = .ok (.bool (decide (x ≠ y))) W := by
 obtain ⟨xf, xt⟩ := x; obtain ⟨yf, yt⟩ := y; by_cases h1 : xf = yf
 · by_cases h2 : xt = yt
   · simp [go_sem, h1, h2]
   · simp [go_sem, h1, h2]
 · simp [go_sem, h1]
theorem same_any (xs ys : List Sp) (a b : Option Addr) (cap cap' : Nat) (w : World) (hs : SlS w a cap xs) (hs' : SlS w b cap' ys) :
    Calls Tryz.prog 16 #[.slice a xs.length cap, .slice b ys.length cap'] w (Ret w (.bool (decide (xs = ys)))) := by
  have hmax := len_max hs; have hmax' := len_max hs'; cases hl : (((xs.length : Nat) : Int) != ((ys.length : Nat) : Int))
  · have hll : xs.length = ys.length := by simp at hl; omega
    have Hl := hid hll; clear hll
    go_enter Tryz.func16, Tryz.ntmps16; go_wp2
    go_loopw [5] (fun i wr => ∃ (k : Nat), k ≤ xs.length ∧ i = .int .i64 k ∧ Ov w wr ∧ Hid (xs.take k = ys.take k)) (fun i _ => xs.length - (intOf i).toNat)
    case atStart => exact ⟨0, Nat.zero_le _, rfl, ovs w, hid rfl⟩
    case round =>
     obtain ⟨k, hk, rfl, ⟨e, rfl⟩, hto⟩ := hrel; by_cases hlt : k < xs.length
     · obtain ⟨b, off, rfl, hb, c0, c1⟩ := hs.at_ hlt; have hlt' : k < ys.length := by have := Hl.out; omega
       obtain ⟨b', off', rfl, hb', c0', c1'⟩ := hs'.at_ hlt'; have q := fun W => neq_span W xs[k] ys[k]; by_cases he : xs[k] = ys[k]
       · rw [show decide (xs[k] ≠ ys[k]) = false by simp [he]] at q; have He := hid he; clear he; go_wp2; refine wro (by kernel_rfl) (by kernel_rfl) ?_; repeat (go_big_quiet_step (fail))
         refine wpQuiet_nil ?_; intro _ hw'; obtain ⟨nq, rfl⟩ := hw'; go_wp2; go_roundw
         case rel => exact ⟨k + 1, by omega, by go_num, ovL, hid (same_step hto.out hlt hlt' He.out)⟩
         case measure => simp [intOf]; omega
       · rw [show decide (xs[k] ≠ ys[k]) = true by simp [he]] at q; have He := hid he; clear he; go_wp2; refine wro (by kernel_rfl) (by kernel_rfl) ?_; repeat (go_big_quiet_step (fail))
         refine wpQuiet_nil ?_; intro _ hw'; obtain ⟨nq, rfl⟩ := hw'; go_wp2; go_ret
         exact ⟨ovL, rtb (same_no hlt hlt' He.out).symm⟩
     · go_wp2; go_ret
       exact ⟨ovL, rtb (same_end Hl.out hto.out hlt).symm⟩
  · have Hl := hid hl
    go_enter Tryz.func16, Tryz.ntmps16; go_wp2; go_ret
    exact ⟨ovL, rtb (same_len Hl.out).symm⟩
end
section
open Go.RowKit
abbrev OwnS (base : Nat) (w : World) (v : Value) (ys : List Sp) : Prop := Own base 25 2 Sp.cs w v ys
def SpRes (k : IntKind) (c : Int) (ys : List Sp) (w : World) (en : Ending) (w' : World) : Prop := (∃ e, w' = over w e) ∧ ∃ v, en = .returned (.tuple #[v, .int k c]) ∧ OwnS w.heap.size w' v ys
theorem span_elem : ElemOf Tryz.prog 51 25 2 16 := elemOf (z := .agg #[.int .i64 0, .int .i64 0]) (by kernel_rfl) (by kernel_rfl) rfl (by decide)
theorem Sp.cs_one (x : Sp) : ∀ u ∈ x.cs, u.oneCell' = true := by intro u hu; simp [Sp.cs] at hu; rcases hu with rfl | rfl <;> rfl
def okN (b : Bool) : Int := if b then 0 else 1
theorem SpRes.bad {k : IntKind} {w w' : World} {l : List Sp} {s : Sp} (h : okSp l s = false) (ho : ∃ e, w' = over w e) : SpRes k (okN (okSp l s)) (addS l s) w (.returned (.tuple #[.slice none 0 0, .int k 1])) w' := by
 refine ⟨ho, .slice none 0 0, by simp [h, okN], ?_⟩; simp only [addS, h]; exact Own.nil w'
theorem okSp_no1 {l : List Sp} {s : Sp} (h : spSoundB l = false) : okSp l s = false := by simp [okSp, h]
theorem okSp_no2 {l : List Sp} {s : Sp} (h : decide (s.t < s.f) = true) : okSp l s = false := by have := of_decide_eq_true h; simp [okSp]; intro _; omega
theorem okSp_yes {l : List Sp} {s : Sp} (h : spSoundB l = true) (h2 : decide (s.t < s.f) = false) : okSp l s = true := by have := of_decide_eq_false h2; simp [okSp, h]; omega
theorem drop_cons {α : Type} {xs : List α} {k : Nat} (h : k < xs.length) : xs.drop k = xs[k] :: xs.drop (k + 1) := List.drop_eq_getElem_cons h
theorem addGo_1 {x s : Sp} {l out : List Sp} (h : apartB x s = true) : addGo (x :: l) s out = addGo l s (out ++ [x]) := by simp [addGo, h]
theorem addGo_2 {x s : Sp} {l out : List Sp} (h : apartB x s = false) (h2 : apartB s x = true) : addGo (x :: l) s out = addGo l x (out ++ [s]) := by simp [addGo, h, h2]
theorem addGo_3 {x s : Sp} {l out : List Sp} (h : apartB x s = false) (h2 : apartB s x = false) : addGo (x :: l) s out = addGo l (mrg s x) out := by simp [addGo, h, h2]
theorem add_any (xs : List Sp) (hwf : ∀ x ∈ xs, x.wf) (s : Sp) (hsw : s.wf) (a : Option Addr) (cap : Nat) (w : World) (hs : SlS w a cap xs) (hb : xs.length ≤ 1000000) :
    Calls Tryz.prog 48 #[.slice a xs.length cap, s.v] w (SpRes .u16 (okN (okSp xs s)) (addS xs s) w) := by
  have hmax := len_max hs; unfold Sp.v; cases hso : spSoundB xs
  · have HS := hid (fun W h => hso ▸ spSound_any xs hwf a cap W h); have Hso := hid hso; clear hso
    go_enter Tryz.func48, Tryz.ntmps48; go_wp2_with (go_at_call 85; refine (HS.out _ (hs.alloc _)).mono ?_; rintro _ _ ⟨⟨e, rfl⟩, rfl⟩)
    go_ret2
    exact SpRes.bad (okSp_no1 Hso.out) ovL
  · have HS := hid (fun W h => hso ▸ spSound_any xs hwf a cap W h); have Hso := hid hso; clear hso; cases hft : decide (s.t < s.f)
    · have Hft := hid hft
      go_enter Tryz.func48, Tryz.ntmps48; go_wp2_with (go_at_call 85; refine (HS.out _ (hs.alloc _)).mono ?_; rintro _ _ ⟨⟨e, rfl⟩, rfl⟩)
      go_loopw [6, 21] (fun out i wr => ∃ (k : Nat) (x : Sp) (ys : List Sp), k ≤ xs.length ∧ i = .int .i64 k ∧ Ov (w.alloc (.cells #[.int .i64 x.f, .int .i64 x.t] 25)) wr ∧ OwnS (w.heap.size + 1) wr out ys ∧ x.wf ∧ ys.length ≤ k ∧ Hid (addGo (xs.drop k) x ys = addGo xs s [])) (fun _ i _ => xs.length - (intOf i).toNat)
      case atStart => exact ⟨0, s, [], Nat.zero_le _, rfl, ex_over, Own.nil _, hsw, Nat.le_refl _, hid rfl⟩
      case round =>
       obtain ⟨k, x, ys, hk, rfl, ⟨e, rfl⟩, hown, hxw, hyl, hgo⟩ := hrel; by_cases hlt : k < xs.length
       · obtain ⟨b, off, rfl, hb, c0, c1⟩ := hs.at_ hlt; cases h1 : apartB xs[k] x
         · have HA := hid (fun W => h1 ▸ apart_any _ _ (hwf _ (List.getElem_mem hlt)) hxw W); have H1 := hid h1; clear h1; cases h2 : apartB x xs[k]
           · have HB := hid (fun W => h2 ▸ apart_any _ _ hxw (hwf _ (List.getElem_mem hlt)) W); have H2 := hid h2; clear h2; go_wp2_with (first | (go_at_call 86; (with_reducible refine (HA.out _).mono ?_); rintro _ _ ⟨⟨e2, rfl⟩, rfl⟩) | (go_at_call 86; (with_reducible refine (HB.out _).mono ?_); rintro _ _ ⟨⟨e3, rfl⟩, rfl⟩))
             go_roundw
             case rel => exact ⟨k + 1, mrg x xs[k], ys, by omega, by go_num, (by repeat (first | exact ex_over | exact ovs _ | refine ex_into ?_ _ | refine ex_alloc ?_ _ | refine ex_drew ?_)), (by repeat (first | with_reducible exact Own.swap hown (by omega) _ | ((with_reducible refine Own.set_ne ?_ ?_ _); rotate_left; (first | assumption | (focus (simp; done)) | (focus (simp [Value.ownBlock]; done)) | (focus (simp [Value.ownBlock]; omega)))) | ((with_reducible refine Own.in_some ?_ _ ?_); rotate_left; (first | assumption | (focus (simp; done)) | (focus (simp; omega)))) | ((with_reducible refine Own.in_one ?_ _ ?_); rotate_left; (first | assumption | (focus (simp [Value.ownBlock]; done)) | (focus (simp [Value.ownBlock]; omega)))) | ((with_reducible refine Own.chg ?_ (chg_chg _ _ _) ?_); rotate_left; (first | assumption | (focus (simp; done)) | (focus (simp; omega)))) | with_reducible refine Own.over ?_ _ | with_reducible refine Own.alloc ?_ _ | with_reducible refine Own.drew ?_ | exact Own.swap hown (by omega) _)), mrg_wf hxw (hwf _ (List.getElem_mem hlt)), by omega, hid (by rw [← hgo.out, drop_cons hlt, addGo_3 H1.out H2.out])⟩
             case measure => simp [intOf]; omega
           · have HB := hid (fun W => h2 ▸ apart_any _ _ hxw (hwf _ (List.getElem_mem hlt)) W); have H2 := hid h2; clear h2; go_wp2_with (first | (go_at_call 86; (with_reducible refine (HA.out _).mono ?_); rintro _ _ ⟨⟨e2, rfl⟩, rfl⟩) | (go_at_call 86; (with_reducible refine (HB.out _).mono ?_); rintro _ _ ⟨⟨e3, rfl⟩, rfl⟩) | (at_builtin; refine wpList_append span_elem Sp.cs_len Sp.cs_one rfl (.tmp 48) (.tmp 50) rfl (B := w.alloc (.cells #[.int .i64 x.f, .int .i64 x.t] 25)) (xs := [x]) hown rfl rfl ovL ovL (by exact asA) (by exact asA) (by (repeat with_reducible refine Sl.drew ?_); exact Sl.one_new (y := x) (by simp; try omega)) (by exact lnA) (by exact lnB) ?_; intro v' x' hown' hk' hf'; have hk0 := hk' (w.heap.size + 1 + e.heap.size) 0 (by simp) (by simp; omega); have hk1 := hk' (w.heap.size + 1 + e.heap.size) 1 (by simp) (by simp; omega); clear hk' hf'; simp [go_sem] at hk0 hk1))
             go_roundw
             case rel => exact ⟨k + 1, xs[k], ys ++ [x], by omega, by go_num, ovL, (by repeat (first | with_reducible exact Own.swap hown' (by omega) _ | ((with_reducible refine Own.set_ne ?_ ?_ _); rotate_left; (first | assumption | (focus (simp; done)) | (focus (simp [Value.ownBlock]; done)) | (focus (simp [Value.ownBlock]; omega)))) | ((with_reducible refine Own.in_some ?_ _ ?_); rotate_left; (first | assumption | (focus (simp; done)) | (focus (simp; omega)))) | ((with_reducible refine Own.in_one ?_ _ ?_); rotate_left; (first | assumption | (focus (simp [Value.ownBlock]; done)) | (focus (simp [Value.ownBlock]; omega)))) | ((with_reducible refine Own.chg ?_ (chg_chg _ _ _) ?_); rotate_left; (first | assumption | (focus (simp; done)) | (focus (simp; omega)))) | with_reducible refine Own.over ?_ _ | with_reducible refine Own.alloc ?_ _ | with_reducible refine Own.drew ?_ | exact Own.swap hown' (by omega) _)), hwf _ (List.getElem_mem hlt), by simp; omega, hid (by rw [← hgo.out, drop_cons hlt, addGo_2 H1.out H2.out])⟩
             case measure => simp [intOf]; omega
         · have HA := hid (fun W => h1 ▸ apart_any _ _ (hwf _ (List.getElem_mem hlt)) hxw W); have H1 := hid h1; clear h1; go_wp2_with (first | (go_at_call 86; refine (HA.out _).mono ?_; rintro _ _ ⟨⟨e2, rfl⟩, rfl⟩) | (at_builtin; refine wpList_append span_elem Sp.cs_len Sp.cs_one rfl (.tmp 40) (.tmp 42) rfl (B := w.alloc (.cells #[.int .i64 x.f, .int .i64 x.t] 25)) (xs := [xs[k]]) hown rfl rfl ovL ovL (by exact asA) (by exact asA) (by (repeat with_reducible refine Sl.drew ?_); exact Sl.one_new (y := xs[k]) (by simp; try omega)) (by exact lnA) (by exact lnB) ?_; intro v' x' hown' _ _))
           go_roundw
           case rel => exact ⟨k + 1, x, ys ++ [xs[k]], by omega, by go_num, ovL, hown', hxw, by simp; omega, hid (by rw [← hgo.out, drop_cons hlt, addGo_1 H1.out])⟩
           case measure => simp [intOf]; omega
       · go_wp2_with (at_builtin; refine wpList_append span_elem Sp.cs_len Sp.cs_one rfl (.tmp 54) (.tmp 56) rfl (B := w.alloc (.cells #[.int .i64 x.f, .int .i64 x.t] 25)) (xs := [x]) hown rfl rfl ovL ovL (by exact asA) (by exact asA) (by (repeat with_reducible refine Sl.drew ?_); exact Sl.one_new (y := x) (by simp; try omega)) (by exact lnA) (by exact lnB) ?_; intro v' x' hown' _ _)
         go_ret2
         have hk' : k = xs.length := by omega
         refine ⟨ovL, v', by rw [okSp_yes Hso.out Hft.out]; rfl, ?_⟩; have : addS xs s = ys ++ [x] := by rw [addS, okSp_yes Hso.out Hft.out, if_pos rfl, ← hgo.out, hk', List.drop_length]; rfl
         rw [this]; exact Own.mono hown' (by omega)
    · have Hft := hid hft
      go_enter Tryz.func48, Tryz.ntmps48; go_wp2_with (go_at_call 85; refine (HS.out _ (hs.alloc _)).mono ?_; rintro _ _ ⟨⟨e, rfl⟩, rfl⟩)
      go_ret2
      exact SpRes.bad (okSp_no2 Hft.out) ovL
end
end Go.Proofs.YtoolooffpphmdaaGreatDoor
