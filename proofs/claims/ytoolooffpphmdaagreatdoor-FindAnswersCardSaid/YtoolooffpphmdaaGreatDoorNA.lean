import Derived.Test.YtoolooffpphmdaaGreatDoorNI
import Derived.Test.YtoolooffpphmdaaGreatDoorLG
import Derived.BigRegion
import Derived.RegionTactic
import Derived.WalkMore
namespace Go.Proofs.YtoolooffpphmdaaGreatDoor
set_option linter.unusedVariables false
set_option linter.unusedSimpArgs false
set_option maxRecDepth 100000
set_option maxHeartbeats 4000000
section
section
variable {P : Program} {ops : Array Oper} {md : Region.Mode} {C : World → Prop} {E : List Nat} {Q : Act → World → Prop}
def Region.dep (md : Region.Mode) (ops : Array Oper) : Nat → Nat → Nat → Bool
  | 0, _, _ => false
  | f + 1, p, j =>
   match ops[j]? with
   | some oj => oj.after.any fun e => Region.binds md e && (e.on == p || Region.dep md ops f p e.on)
   | none => false
/-! ### The text's order -/
def Region.effFree (md : Region.Mode) (ops : Array Oper) (E : List Nat) (listed : Array Bool) (p : Nat) : Bool :=
 match ops[p]? with
 | none => false
 | some op => (List.range ops.size).all fun j => j == p || listed.getD j true || match ops[j]? with
  | some oj => oj.after.any (fun e => Region.binds md e && e.on == p) || (E.contains j && Region.dep md ops ops.size p j) || (!E.contains j && op.apart ops oj && oj.apart ops op)
  | none => true
def Region.lexMix (md : Region.Mode) (ops : Array Oper) (E : List Nat) : Nat → Nat → Array Bool → Bool
  | 0, _, listed => (Region.ready md ops listed).isEmpty
  | f + 1, k, listed => (Region.ready md ops listed).contains k && (if E.contains k then Region.effFree md ops E listed k else Region.free md ops listed k) && Region.lexMix md ops E f (k + 1) (listed.setIfInBounds k true)
def Region.mixB (md : Region.Mode) (ops : Array Oper) (E : List Nat) : Bool := Region.noSelect ops && Region.lexMix md ops E ops.size 0 (Array.replicate ops.size false)
end
end
section
open Go.RowKit
def rankR (l : List Sp) (x : Sp) : Nat := (l.takeWhile fun y => decide (y.f ≤ x.f)).length
def insR (l : List Sp) (x : Sp) : List Sp := l.take (rankR l x) ++ [x] ++ l.drop (rankR l x)
def sortR (l : List Sp) : List Sp := l.foldl insR []
theorem rankR_le (l : List Sp) (x : Sp) : rankR l x ≤ l.length := (List.takeWhile_sublist _).length_le
theorem insR_len (l : List Sp) (x : Sp) : (insR l x).length = l.length + 1 := by
 have := rankR_le l x; simp only [insR, List.length_append, List.length_take, List.length_drop, List.length_singleton]; omega
theorem sortR_snoc (l : List Sp) (x : Sp) : sortR (l ++ [x]) = insR (sortR l) x := by simp [sortR]
theorem sortR_len (l : List Sp) : (sortR l).length = l.length := by
 suffices h : ∀ (l a : List Sp), (l.foldl insR a).length = a.length + l.length by simpa [sortR] using h l []
 intro l
 induction l with
 | nil => simp
 | cons x l ih => intro a; simp only [List.foldl_cons, ih, insR_len, List.length_cons]; omega
theorem takeWhile_rank {l : List Sp} {p : Sp → Bool} {k : Nat} (h1 : ∀ i (hi : i < k) (h : i < l.length), p l[i] = true) (hk : k ≤ l.length) (h2 : ∀ h : k < l.length, p l[k] = false) : (l.takeWhile p).length = k := by
 induction l generalizing k with
 | nil => simp at hk; simp [hk]
 | cons x l ih =>
  cases k with
  | zero => have := h2 (by simp); simp only [List.getElem_cons_zero] at this; simp [List.takeWhile_cons, this]
  | succ k =>
   have h0 := h1 0 (by omega) (by simp); simp only [List.getElem_cons_zero] at h0; rw [List.takeWhile_cons, if_pos h0, List.length_cons, ih (k := k)]
   · intro i hi h; have := h1 (i + 1) (by omega) (by simp; omega); simpa using this
   · simpa using hk
   · intro h; have := h2 (by simpa using h); simpa using this
def rankTo (l : List Sp) (x : Sp) (k : Nat) : Prop := ∀ i (_ : i < k) (h : i < l.length), decide (l[i].f ≤ x.f) = true
theorem rankTo_zero (l : List Sp) (x : Sp) : rankTo l x 0 := fun i h => absurd h (Nat.not_lt_zero i)
theorem rankTo_succ {l : List Sp} {x : Sp} {k : Nat} (h : rankTo l x k) (hk : k < l.length) (h2 : decide (l[k].f ≤ x.f) = true) : rankTo l x (k + 1) := by
 intro i hi hl; rcases Nat.lt_or_ge i k with hlt | hge
 · exact h i hlt hl
 · obtain rfl : i = k := by omega
   exact h2
theorem rankTo_end {l : List Sp} {x : Sp} {k : Nat} (h : rankTo l x k) (hk : k ≤ l.length) (h2 : ∀ hh : k < l.length, decide (l[k].f ≤ x.f) = false) : rankR l x = k := takeWhile_rank h hk h2
theorem sorted_any (xs : List Sp) (a : Option Addr) (cap : Nat) (w : World) (hs : SlS w a cap xs) (hb : xs.length ≤ 100000) :
    Calls Tryz.prog 126 #[.slice a xs.length cap] w (Gives w fun v w' => OwnS w.heap.size w' v (sortR xs)) := by
  have hmax := len_max hs
  go_enter Tryz.func126, Tryz.ntmps126; go_wp2
  go_loopw [3, 4] (fun out i wr => ∃ (k : Nat) (ys : List Sp), k ≤ xs.length ∧ i = .int .i64 k ∧ Ov w wr ∧ OwnS w.heap.size wr out ys ∧ ys.length ≤ k ∧ Hid (ys = sortR (xs.take k))) (fun _ i _ => xs.length - (intOf i).toNat)
  case atStart => exact ⟨0, [], Nat.zero_le _, rfl, ovs w, Own.nil _, Nat.le_refl _, hid rfl⟩
  case round =>
   obtain ⟨k, ys, hk, rfl, ⟨e, rfl⟩, hown, hyl, hys⟩ := hrel; by_cases hlt : k < xs.length
   · obtain ⟨b, off, rfl, hb, c0, c1⟩ := hs.at_ hlt; obtain ⟨ao, co, rfl, hso⟩ := Own.slice Sp.cs_len hown; have mo := len_max hso; go_wp2_with fail
     go_loopw [5] (fun j wr => ∃ (m : Nat), m ≤ ys.length ∧ j = .int .i64 m ∧ Ov (over w e) wr ∧ Hid (rankTo ys xs[k] m)) (fun j _ => ys.length - (intOf j).toNat)
     case atStart => exact ⟨0, Nat.zero_le _, rfl, ovs _, hid (rankTo_zero _ _)⟩
     case round =>
      obtain ⟨m, hm, rfl, ⟨e2, rfl⟩, hto⟩ := hrel; by_cases hml : m < ys.length
      · obtain ⟨b2, o2, rfl, hb2, d0, d1⟩ := SlS.at_ hso hml; simp only [size_over] at hb2; have hd : decide (m < ys.length) = true := by simpa using hml
        cases h1 : decide (ys[m].f ≤ xs[k].f)
        · have hr := hid (rankTo_end hto.out (by omega) (fun _ => h1)); go_wp2_with fail
          refine wro (by kernel_rfl) (by kernel_rfl) ?_; repeat (go_big_quiet_step (fail))
          refine wpQuiet_nil ?_; intro _ hw'; obtain ⟨nq, rfl⟩ := hw'; clear d0 d1 h1 hd; obtain ⟨a3, c3, q3, s3⟩ := run_take span_elem hso hm; obtain ⟨a4, c4, q4, s4⟩ := run_drop span_elem hso hm; obtain ⟨fs, hfs⟩ : ∃ fs, fs = ys.take m := ⟨_, rfl⟩; obtain ⟨gs, hgs⟩ : ∃ gs, gs = ys.drop m := ⟨_, rfl⟩; rw [← hfs] at q3 s3; rw [← hgs] at q4 s4; have lf : fs.length ≤ 100000 := by rw [hfs, List.length_take]; omega
          have lg : gs.length ≤ 100000 := by rw [hgs, List.length_drop]; omega
          have Hfs := hid hfs; have Hgs := hid hgs; clear hfs hgs; go_wp2_with (first | (at_builtin; refine wpList_append span_elem Sp.cs_len Sp.cs_one rfl (.tmp 32) (.tmp 35) rfl (B := over w e) (ys := []) (xs := fs) (Own.nil (base := (over w e).heap.size) _) rfl rfl (ovs _) ovL (Nat.le_refl _) (by simp; try omega) (by repeat (first | with_reducible exact s3 | with_reducible refine Sl.over ?_ _ | with_reducible refine Sl.alloc ?_ _ | with_reducible refine Sl.drew ?_ | exact s3)) (by unfold maxLen; simp; omega) (by simp; omega) ?_; intro v1 x1 hown1 _ _; rw [List.nil_append] at hown1) | (at_builtin; refine wpList_append span_elem Sp.cs_len Sp.cs_one rfl (.tmp 37) (.tmp 42) rfl (B := over w e) (xs := [xs[k]]) hown1 rfl rfl ovL ovL (by exact asA) (by exact asA) (by (repeat with_reducible refine Sl.drew ?_); exact Sl.one_new (y := xs[k]) (by simp; try omega)) (by exact lnA) (by exact lnB) ?_; intro v2 x2 hown2 _ _) | (at_builtin; refine wpList_append span_elem Sp.cs_len Sp.cs_one rfl (.tmp 44) (.tmp 47) rfl (B := over w e) (xs := gs) hown2 rfl rfl ovL ovL (Nat.le_refl _) (by simp; try omega) (by repeat (first | with_reducible exact s4 | with_reducible refine Sl.over ?_ _ | with_reducible refine Sl.alloc ?_ _ | with_reducible refine Sl.drew ?_ | exact s4)) (by unfold maxLen; simp; omega) (by simp; omega) ?_; intro v3 x3 hown3 _ _))
          go_roundw
          case rel => exact ⟨k + 1, _, by omega, by go_num, ovL, Own.mono hown3 (by simp), by simp; rw [Hfs.out, Hgs.out, List.length_take, List.length_drop]; omega, hid (by rw [take_snoc' hlt, sortR_snoc, ← hys.out, insR, hr.out, ← Hfs.out, ← Hgs.out])⟩
          case measure => simp [intOf]; omega
        · have H1 := hid h1; go_wp2_with fail
          refine wro (by kernel_rfl) (by kernel_rfl) ?_; repeat (go_big_quiet_step (fail))
          refine wpQuiet_nil ?_; intro _ hw'; obtain ⟨nq, rfl⟩ := hw'; go_wp2_with fail
          go_roundw
          case rel => exact ⟨m + 1, by omega, by go_num, ovL, hid (rankTo_succ hto.out hml H1.out)⟩
          case measure => simp [intOf]; omega
      · have hr := hid (rankTo_end hto.out hm (fun h => absurd h hml)); have hd : decide (m < ys.length) = false := by simpa using hml
        go_wp2_with fail
        refine wro (by kernel_rfl) (by kernel_rfl) ?_; repeat (go_big_quiet_step (fail))
        refine wpQuiet_nil ?_; intro _ hw'; obtain ⟨nq, rfl⟩ := hw'; clear hd; obtain ⟨a3, c3, q3, s3⟩ := run_take span_elem hso hm; obtain ⟨a4, c4, q4, s4⟩ := run_drop span_elem hso hm; obtain ⟨fs, hfs⟩ : ∃ fs, fs = ys.take m := ⟨_, rfl⟩; obtain ⟨gs, hgs⟩ : ∃ gs, gs = ys.drop m := ⟨_, rfl⟩; rw [← hfs] at q3 s3; rw [← hgs] at q4 s4; have lf : fs.length ≤ 100000 := by rw [hfs, List.length_take]; omega
        have lg : gs.length ≤ 100000 := by rw [hgs, List.length_drop]; omega
        have Hfs := hid hfs; have Hgs := hid hgs; clear hfs hgs; go_wp2_with (first | (at_builtin; refine wpList_append span_elem Sp.cs_len Sp.cs_one rfl (.tmp 32) (.tmp 35) rfl (B := over w e) (ys := []) (xs := fs) (Own.nil (base := (over w e).heap.size) _) rfl rfl (ovs _) ovL (Nat.le_refl _) (by simp; try omega) (by repeat (first | with_reducible exact s3 | with_reducible refine Sl.over ?_ _ | with_reducible refine Sl.alloc ?_ _ | with_reducible refine Sl.drew ?_ | exact s3)) (by unfold maxLen; simp; omega) (by simp; omega) ?_; intro v1 x1 hown1 _ _; rw [List.nil_append] at hown1) | (at_builtin; refine wpList_append span_elem Sp.cs_len Sp.cs_one rfl (.tmp 37) (.tmp 42) rfl (B := over w e) (xs := [xs[k]]) hown1 rfl rfl ovL ovL (by exact asA) (by exact asA) (by (repeat with_reducible refine Sl.drew ?_); exact Sl.one_new (y := xs[k]) (by simp; try omega)) (by exact lnA) (by exact lnB) ?_; intro v2 x2 hown2 _ _) | (at_builtin; refine wpList_append span_elem Sp.cs_len Sp.cs_one rfl (.tmp 44) (.tmp 47) rfl (B := over w e) (xs := gs) hown2 rfl rfl ovL ovL (Nat.le_refl _) (by simp; try omega) (by repeat (first | with_reducible exact s4 | with_reducible refine Sl.over ?_ _ | with_reducible refine Sl.alloc ?_ _ | with_reducible refine Sl.drew ?_ | exact s4)) (by unfold maxLen; simp; omega) (by simp; omega) ?_; intro v3 x3 hown3 _ _))
        go_roundw
        case rel => exact ⟨k + 1, _, by omega, by go_num, ovL, Own.mono hown3 (by simp), by simp; rw [Hfs.out, Hgs.out, List.length_take, List.length_drop]; omega, hid (by rw [take_snoc' hlt, sortR_snoc, ← hys.out, insR, hr.out, ← Hfs.out, ← Hgs.out])⟩
        case measure => simp [intOf]; omega
   · go_wp2_with fail
     go_ret
     have h := hys.out; rw [List.take_of_length_le (by omega)] at h; exact ⟨ovL, _, rfl, by rw [← h]; exact hown⟩
def touchR (z x : Sp) : Bool := decide (x.f ≤ z.t) || (x.f == wrap64 (z.t + 1))
def joinPut (out : List Sp) (x : Sp) : List Sp :=
 if h : 0 < out.length then
  if touchR (out[out.length - 1]'(by omega)) x then out.set (out.length - 1) ⟨(out[out.length - 1]'(by omega)).f, if (out[out.length - 1]'(by omega)).t < x.t then x.t else (out[out.length - 1]'(by omega)).t⟩ else out ++ [x]
 else out ++ [x]
def joinR (l : List Sp) : List Sp := (sortR l).foldl joinPut []
theorem joinPut_0 {out : List Sp} {x : Sp} (h : ¬ 0 < out.length) : joinPut out x = out ++ [x] := by unfold joinPut; rw [dif_neg h]
theorem joinPut_1 {out : List Sp} {x : Sp} (h : 0 < out.length) (ht : touchR out[out.length - 1] x = false) : joinPut out x = out ++ [x] := by unfold joinPut; rw [dif_pos h, ht]; rfl
theorem joinPut_2 {out : List Sp} {x z : Sp} (h : 0 < out.length) (ht : touchR out[out.length - 1] x = true) (hz : z = ⟨out[out.length - 1].f, if out[out.length - 1].t < x.t then x.t else out[out.length - 1].t⟩) : joinPut out x = out.set (out.length - 1) z := by unfold joinPut; rw [dif_pos h, ht, hz]; rfl
theorem foldl_snoc' {α β : Type} (f : β → α → β) (b : β) (l : List α) (x : α) : (l ++ [x]).foldl f b = f (l.foldl f b) x := by simp
theorem OwnS.open_ {base : Nat} {w : World} {v : Value} {xs : List Sp} (h : OwnS base w v xs) (h0 : 0 < xs.length) :
    ∃ g cap, v = .slice (some ⟨g, 0, none⟩) xs.length cap ∧ base ≤ g ∧ g < w.heap.size ∧ w.cell? ⟨g, (xs.length - 1) * 2, none⟩ = some (.int .i64 xs[xs.length - 1].f) ∧ w.cell? ⟨g, (xs.length - 1) * 2 + 1, none⟩ = some (.int .i64 xs[xs.length - 1].t) ∧ w.frozen? ⟨g, (xs.length - 1) * 2 + 1, none⟩ = false := by
  obtain ⟨g, cap, h1, h2, h3, h4, h5⟩ := Own.open_ Sp.cs_len h h0; have hx : xs[xs.length - 1]? = some xs[xs.length - 1] := List.getElem?_eq_getElem (by omega); exact ⟨g, cap, h1, h2, h3, h4 _ _ hx 0 _ rfl, h4 _ _ hx 1 _ rfl, h5 _⟩
theorem joined_any (xs : List Sp) (a : Option Addr) (cap : Nat) (w : World) (hs : SlS w a cap xs) (hb : xs.length ≤ 100000) :
    Calls Tryz.prog 89 #[.slice a xs.length cap] w (Gives w fun v w' => OwnS w.heap.size w' v (joinR xs)) := by
  have HS := hid (sorted_any xs a cap w hs hb); obtain ⟨ss, hss⟩ : ∃ ss, ss = sortR xs := ⟨_, rfl⟩; have hsl : ss.length ≤ 100000 := by rw [hss, sortR_len]; exact hb
  have Hss := hid hss; clear hs hss
  go_enter Tryz.func89, Tryz.ntmps89; go_wp2_with (go_at_call 126; refine HS.out.mono ?_; rintro _ _ ⟨⟨e0, rfl⟩, v0, rfl, hso⟩; rw [← Hss.out] at hso; obtain ⟨ao, co, rfl, hs⟩ := Own.slice Sp.cs_len hso; clear hso)
  go_loopw [3, 5] (fun out i wr => ∃ (k : Nat) (ys : List Sp), k ≤ ss.length ∧ i = .int .i64 k ∧ Ov (over w e0) wr ∧ OwnS (over w e0).heap.size wr out ys ∧ ys.length ≤ k ∧ Hid (ys = (ss.take k).foldl joinPut [])) (fun _ i _ => ss.length - (intOf i).toNat)
  case atStart => exact ⟨0, [], Nat.zero_le _, rfl, ovs _, Own.nil _, Nat.le_refl _, hid rfl⟩
  case round =>
   obtain ⟨k, ys, hk, rfl, ⟨e, rfl⟩, hown, hyl, hys⟩ := hrel; by_cases hlt : k < ss.length
   · obtain ⟨b, off, rfl, hb, c0, c1⟩ := SlS.at_ hs hlt; simp only [size_over] at hb; by_cases hn : 0 < ys.length
     · obtain ⟨g, cg, rfl, hg1, hg2, d0, d1, d2⟩ := OwnS.open_ hown hn; simp only [size_over] at hg1 hg2; have mo : ys.length ≤ 100000 := by omega
       have hd : decide (0 < ys.length) = true := by simpa using hn
       cases h1 : decide (ss[k].f ≤ ys[ys.length - 1].t)
       · cases h2 : (ss[k].f == wrap64 (ys[ys.length - 1].t + 1))
         · have H := hid (joinPut_1 (x := ss[k]) hn (by rw [touchR, h1, h2]; rfl)); go_wp2_with fail
           refine wro (by kernel_rfl) (by kernel_rfl) ?_; repeat (go_big_quiet_step (fail))
           refine wpQuiet_nil ?_; intro _ hw'; obtain ⟨nq, rfl⟩ := hw'; go_wp2_with (at_builtin; refine wpList_append span_elem Sp.cs_len Sp.cs_one rfl (.tmp 65) (.tmp 70) rfl (B := over w e0) (xs := [ss[k]]) hown rfl rfl ovL ovL (by exact asA) (by exact asA) (by (repeat with_reducible refine Sl.drew ?_); exact Sl.one_new (y := ss[k]) (by simp; try omega)) (by exact lnA) (by exact lnB) ?_; intro v2 x2 hown2 _ _)
           go_roundw
           case rel => exact ⟨k + 1, _, by omega, by go_num, ovL, hown2, by simp; omega, hid (by rw [take_snoc' hlt, foldl_snoc', ← hys.out, H.out])⟩
           case measure => simp [intOf]; omega
         · have HT := hid (show touchR ys[ys.length - 1] ss[k] = true by rw [touchR, h1, h2]; rfl); obtain ⟨M, hM⟩ : ∃ M : Sp, M = ⟨ys[ys.length - 1].f, if ys[ys.length - 1].t < ss[k].t then ss[k].t else ys[ys.length - 1].t⟩ := ⟨_, rfl⟩; have e1 : (if ys[ys.length - 1].t < ss[k].t then ss[k].t else ys[ys.length - 1].t) = M.t := by rw [hM]
           have hcs : Hid (M.cs = (Sp.cs ys[ys.length - 1]).set 1 (.int .i64 M.t)) := by rw [hM]; rfl
           have HM := hid hM; clear hM; go_wp2_with fail
           refine wro (by kernel_rfl) (by kernel_rfl) ?_; repeat (go_big_quiet_step (fail))
           refine wpQuiet_nil ?_; intro _ hw'; obtain ⟨nq, rfl⟩ := hw'; go_wp2_with fail
           go_region
           go_wp2_with fail
           go_roundw
           case rel => exact ⟨k + 1, ys.set (ys.length - 1) M, by omega, by go_num, ovL, (by repeat (first | with_reducible refine Own.drew ?_ | with_reducible refine Own.over ?_ _ | exact Own.set_ (i := ys.length - 1) Sp.cs_len hown (by omega) M 1 _ hcs.out (by omega))), by simp; omega, hid (by rw [take_snoc' hlt, foldl_snoc', ← hys.out, joinPut_2 hn HT.out HM.out])⟩
           case measure => simp [intOf]; omega
       · have HT := hid (show touchR ys[ys.length - 1] ss[k] = true by rw [touchR, h1]; rfl); obtain ⟨M, hM⟩ : ∃ M : Sp, M = ⟨ys[ys.length - 1].f, if ys[ys.length - 1].t < ss[k].t then ss[k].t else ys[ys.length - 1].t⟩ := ⟨_, rfl⟩; have e1 : (if ys[ys.length - 1].t < ss[k].t then ss[k].t else ys[ys.length - 1].t) = M.t := by rw [hM]
         have hcs : Hid (M.cs = (Sp.cs ys[ys.length - 1]).set 1 (.int .i64 M.t)) := by rw [hM]; rfl
         have HM := hid hM; clear hM; go_wp2_with fail
         refine wro (by kernel_rfl) (by kernel_rfl) ?_; repeat (go_big_quiet_step (fail))
         refine wpQuiet_nil ?_; intro _ hw'; obtain ⟨nq, rfl⟩ := hw'; go_wp2_with fail
         go_region
         go_wp2_with fail
         go_roundw
         case rel => exact ⟨k + 1, ys.set (ys.length - 1) M, by omega, by go_num, ovL, (by repeat (first | with_reducible refine Own.drew ?_ | with_reducible refine Own.over ?_ _ | exact Own.set_ (i := ys.length - 1) Sp.cs_len hown (by omega) M 1 _ hcs.out (by omega))), by simp; omega, hid (by rw [take_snoc' hlt, foldl_snoc', ← hys.out, joinPut_2 hn HT.out HM.out])⟩
         case measure => simp [intOf]; omega
     · obtain ⟨ao, co, rfl, _⟩ := Own.slice Sp.cs_len hown; have mo : ys.length ≤ 100000 := by omega
       have hd : decide (0 < ys.length) = false := by simpa using hn
       have H := hid (joinPut_0 (x := ss[k]) hn); go_wp2_with fail
       refine wro (by kernel_rfl) (by kernel_rfl) ?_; repeat (go_big_quiet_step (fail))
       refine wpQuiet_nil ?_; intro _ hw'; obtain ⟨nq, rfl⟩ := hw'; go_wp2_with (at_builtin; refine wpList_append span_elem Sp.cs_len Sp.cs_one rfl (.tmp 65) (.tmp 70) rfl (B := over w e0) (xs := [ss[k]]) hown rfl rfl ovL ovL (by exact asA) (by exact asA) (by (repeat with_reducible refine Sl.drew ?_); exact Sl.one_new (y := ss[k]) (by simp; try omega)) (by exact lnA) (by exact lnB) ?_; intro v2 x2 hown2 _ _)
       go_roundw
       case rel => exact ⟨k + 1, _, by omega, by go_num, ovL, hown2, by simp; omega, hid (by rw [take_snoc' hlt, foldl_snoc', ← hys.out, H.out])⟩
       case measure => simp [intOf]; omega
   · go_wp2_with fail
     go_ret
     have h := hys.out; rw [List.take_of_length_le (by omega)] at h; exact ⟨ovL, _, rfl, by rw [joinR, ← Hss.out, ← h]; exact Own.mono hown (by simp)⟩
end
section
open Go.RowKit
def raddS (l : List Sp) (s : Sp) : List Sp := if okSp l s then joinR (l ++ [s]) else []
theorem radd_any (xs : List Sp) (hwf : ∀ x ∈ xs, x.wf) (s : Sp) (a : Option Addr) (cap : Nat) (w : World) (hs : SlS w a cap xs) (hb : xs.length ≤ 10000) :
    Calls Tryz.prog 50 #[.slice a xs.length cap, s.v] w (SpRes .i64 (okN (okSp xs s)) (raddS xs s) w) := by
  have hmax := len_max hs; unfold Sp.v; cases hso : spSoundB xs
  · have HS := hid (fun W h => hso ▸ spRsound_any xs hwf a cap W h); have Hso := hid hso; clear hso
    go_enter Tryz.func50, Tryz.ntmps50; go_wp2_with (go_at_call 88; refine (HS.out _ (hs.alloc _)).mono ?_; rintro _ _ ⟨⟨e, rfl⟩, rfl⟩)
    go_ret2
    refine ⟨ovL, .slice none 0 0, by rw [okSp_no1 Hso.out]; rfl, ?_⟩; rw [raddS, okSp_no1 Hso.out]; exact Own.nil _
  · have HS := hid (fun W h => hso ▸ spRsound_any xs hwf a cap W h); have Hso := hid hso; clear hso; cases hft : decide (s.t < s.f)
    · have Hft := hid hft; obtain ⟨zs, hzs⟩ : ∃ zs, zs = xs ++ [s] := ⟨_, rfl⟩; have hzl : zs.length ≤ 100000 := by rw [hzs]; simp; omega
      have Hzs := hid hzs; clear hzs
      go_enter Tryz.func50, Tryz.ntmps50; go_wp2_with (first | (go_at_call 88; refine (HS.out _ (hs.alloc _)).mono ?_; rintro _ _ ⟨⟨e, rfl⟩, rfl⟩) | (at_builtin; refine wpList_append span_elem Sp.cs_len Sp.cs_one rfl (.tmp 19) (.tmp 20) rfl (B := w.alloc (.cells #[.int .i64 s.f, .int .i64 s.t] 25)) (ys := []) (xs := xs) (Own.nil (base := w.heap.size + 1) _) rfl rfl (ovs _) ovL (by simp) (by simp; try omega) (by repeat (first | with_reducible exact hs | with_reducible refine Sl.over ?_ _ | with_reducible refine Sl.alloc ?_ _ | with_reducible refine Sl.drew ?_ | exact hs)) (by unfold maxLen; simp; omega) (by simp; omega) ?_; intro v1 x1 hown1 _ _; rw [List.nil_append] at hown1) | (at_builtin; refine wpList_append span_elem Sp.cs_len Sp.cs_one rfl (.tmp 22) (.tmp 24) rfl (B := w.alloc (.cells #[.int .i64 s.f, .int .i64 s.t] 25)) (xs := [s]) hown1 rfl rfl ovL ovL (by exact asA) (by exact asA) (by (repeat with_reducible refine Sl.drew ?_); exact Sl.one_new (y := s) (by simp; try omega)) (by exact lnA) (by exact lnB) ?_; intro v2 x2 hown2 _ _; rw [← Hzs.out] at hown2; obtain ⟨a2, c2, rfl, hs2⟩ := Own.slice Sp.cs_len hown2) | (go_at_call 89; refine (joined_any zs a2 c2 _ hs2 hzl).mono ?_; rintro _ _ ⟨⟨e3, rfl⟩, v3, rfl, hown3⟩))
      go_ret2
      refine ⟨ovL, _, by rw [okSp_yes Hso.out Hft.out]; rfl, ?_⟩; rw [raddS, okSp_yes Hso.out Hft.out, if_pos rfl, ← Hzs.out]; exact Own.mono hown3 (by simp; omega)
    · have Hft := hid hft
      go_enter Tryz.func50, Tryz.ntmps50; go_wp2_with (go_at_call 88; refine (HS.out _ (hs.alloc _)).mono ?_; rintro _ _ ⟨⟨e, rfl⟩, rfl⟩)
      go_ret2
      refine ⟨ovL, .slice none 0 0, by rw [okSp_no2 Hft.out]; rfl, ?_⟩; rw [raddS, okSp_no2 Hft.out]; exact Own.nil _
end
section
open Go.RowKit
def inS (x : Int) (l : List Sp) : Prop := ∃ s, s ∈ l ∧ s.f ≤ x ∧ x ≤ s.t
def PW (l : List Sp) : Prop := (∀ s ∈ l, s.f ≤ s.t) ∧ l.Pairwise (fun a b => a.t + 1 < b.f)
theorem inS_nil (x : Int) : inS x [] ↔ False := by simp [inS]
theorem inS_cons (x : Int) (s : Sp) (l : List Sp) : inS x (s :: l) ↔ (s.f ≤ x ∧ x ≤ s.t) ∨ inS x l := by simp [inS, or_and_right, exists_or]
theorem inS_append (x : Int) (a b : List Sp) : inS x (a ++ b) ↔ inS x a ∨ inS x b := by simp [inS, or_and_right, exists_or]
theorem spSoundB_PW : ∀ l : List Sp, spSoundB l = true ↔ PW l
  | [] => by simp [spSoundB, PW]
  | [x] => by simp [spSoundB, PW]
  | x :: y :: l => by
   have ih := spSoundB_PW (y :: l); simp only [spSoundB, Bool.and_eq_true, decide_eq_true_eq, apartB] at ih ⊢
   constructor
   · rintro ⟨⟨h1, h2⟩, h3⟩; obtain ⟨h4, h5⟩ := ih.1 h3; refine ⟨?_, ?_⟩
     · intro s hs; rcases List.mem_cons.1 hs with rfl | hs
       · exact h1
       · exact h4 s hs
     · rw [List.pairwise_cons]; refine ⟨fun b hb => ?_, h5⟩; rcases List.mem_cons.1 hb with rfl | hb
       · exact h2
       · have h6 := (List.pairwise_cons.1 h5).1 b hb; have h7 := h4 y (by simp); omega
   · rintro ⟨h1, h2⟩; rw [List.pairwise_cons] at h2; exact ⟨⟨h1 x (by simp), h2.1 y (by simp)⟩, ih.2 ⟨fun s hs => h1 s (by simp [hs]), h2.2⟩⟩
theorem PW_ext : ∀ {a b : List Sp}, PW a → PW b → (∀ x, inS x a ↔ inS x b) → a = b
  | [], [], _, _, _ => rfl
  | [], y :: b, _, hb, h => by
   have := (h y.f).2 ⟨y, by simp, Int.le_refl _, hb.1 y (by simp)⟩; rw [inS_nil] at this; exact this.elim
  | x :: a, [], ha, _, h => by
   have := (h x.f).1 ⟨x, by simp, Int.le_refl _, ha.1 x (by simp)⟩; rw [inS_nil] at this; exact this.elim
  | x :: a, y :: b, ha, hb, h => by
   obtain ⟨ha1, ha2⟩ := ha; obtain ⟨hb1, hb2⟩ := hb; rw [List.pairwise_cons] at ha2 hb2; have hx := ha1 x (by simp); have hy := hb1 y (by simp); have below : ∀ {z : Sp} {c : List Sp}, (∀ s ∈ c, z.t + 1 < s.f) → ∀ t, t ≤ z.t + 1 → ¬ inS t c := fun hz t ht ⟨s, hs, h1, _⟩ => by have := hz s hs; omega
   have e1 : x.f = y.f := by
    have h1 := (h x.f).1 ⟨x, by simp, Int.le_refl _, hx⟩; have h2 := (h y.f).2 ⟨y, by simp, Int.le_refl _, hy⟩; rw [inS_cons] at h1 h2; have h1' : y.f ≤ x.f := by
     rcases h1 with h1 | ⟨s, hs, h3, _⟩
     · exact h1.1
     · have := hb2.1 s hs; omega
    have h2' : x.f ≤ y.f := by
     rcases h2 with h2 | ⟨s, hs, h3, _⟩
     · exact h2.1
     · have := ha2.1 s hs; omega
    omega
   have e2 : x.t = y.t := by
    rcases Int.lt_trichotomy x.t y.t with hlt | heq | hgt
    · have := (h (x.t + 1)).2 ⟨y, by simp, by omega, by omega⟩; rw [inS_cons] at this; rcases this with this | this
      · omega
      · exact absurd this (below ha2.1 _ (Int.le_refl _))
    · exact heq
    · have := (h (y.t + 1)).1 ⟨x, by simp, by omega, by omega⟩; rw [inS_cons] at this; rcases this with this | this
      · omega
      · exact absurd this (below hb2.1 _ (Int.le_refl _))
   have e : x = y := by cases x; cases y; simp at e1 e2; rw [e1, e2]
   subst e
   congr 1
   refine PW_ext ⟨fun s hs => ha1 s (by simp [hs]), ha2.2⟩ ⟨fun s hs => hb1 s (by simp [hs]), hb2.2⟩ fun t => ?_
   constructor
   · intro ht; have hgt : x.t < t := by obtain ⟨s, hs, h1, _⟩ := ht; have := ha2.1 s hs; omega
     have := (h t).1 (by rw [inS_cons]; exact .inr ht); rw [inS_cons] at this; rcases this with this | this
     · omega
     · exact this
   · intro ht; have hgt : x.t < t := by obtain ⟨s, hs, h1, _⟩ := ht; have := hb2.1 s hs; omega
     have := (h t).2 (by rw [inS_cons]; exact .inr ht); rw [inS_cons] at this; rcases this with this | this
     · omega
     · exact this
/-! ### Add -/
theorem addGo_spec : ∀ (l out : List Sp) (s : Sp), PW (out ++ l) → (∀ o ∈ out, o.t + 1 < s.f) → s.f ≤ s.t → PW (addGo l s out) ∧ ∀ x, inS x (addGo l s out) ↔ inS x out ∨ inS x l ∨ (s.f ≤ x ∧ x ≤ s.t)
  | [], out, s, h, ho, hs => by
   simp only [List.append_nil] at h; refine ⟨⟨fun z hz => ?_, ?_⟩, fun x => ?_⟩
   · simp [addGo] at hz; rcases hz with hz | rfl
     · exact h.1 z hz
     · exact hs
   · simp only [addGo]; rw [List.pairwise_append]; exact ⟨h.2, by simp, fun a ha b hb => by simp at hb; subst hb; exact ho a ha⟩
   · simp only [addGo]; rw [inS_append, inS_cons, inS_nil]; simp
  | y :: l, out, s, h, ho, hs => by
   have hy := h.1 y (by simp); have hp := h.2; rw [List.pairwise_append] at hp; obtain ⟨p1, p2, p3⟩ := hp; rw [List.pairwise_cons] at p2; unfold addGo; split
   · rename_i hc
     simp only [apartB, decide_eq_true_eq] at hc; obtain ⟨q1, q2⟩ := addGo_spec l (out ++ [y]) s (by simpa using h) (fun o hoo => by simp at hoo; rcases hoo with hoo | rfl; exact ho o hoo; exact hc) hs
     refine ⟨q1, fun x => ?_⟩; rw [q2, inS_append, inS_cons, inS_cons, inS_nil]; simp only [or_false, false_or, or_assoc, or_comm, or_left_comm]
   · split
     · rename_i hc
       simp only [apartB, decide_eq_true_eq] at hc
       obtain ⟨q1, q2⟩ := addGo_spec l (out ++ [s]) y
         ⟨fun z hz => by
          simp at hz; rcases hz with hz | rfl | hz
          · exact h.1 z (by simp [hz])
          · exact hs
          · exact h.1 z (by simp [hz]),
          by
           rw [List.append_assoc, List.singleton_append, List.pairwise_append, List.pairwise_cons]; refine ⟨p1, ⟨fun b hb => ?_, p2.2⟩, fun a ha b hb => ?_⟩
           · have := p2.1 b hb; omega
           · rcases List.mem_cons.1 hb with rfl | hb
             · exact ho a ha
             · exact p3 a ha b (by simp [hb])⟩
         (fun o hoo => by simp at hoo; rcases hoo with hoo | rfl; exact p3 o hoo y (by simp); exact hc) hy
       refine ⟨q1, fun x => ?_⟩; rw [q2, inS_append, inS_cons, inS_cons, inS_nil]; simp only [or_false, false_or, or_assoc, or_comm, or_left_comm]
     · rename_i hc1 hc2
       simp only [apartB, decide_eq_true_eq] at hc1 hc2; have hf : (mrg s y).f = if y.f < s.f then y.f else s.f := rfl
       have ht : (mrg s y).t = if s.t < y.t then y.t else s.t := rfl
       obtain ⟨q1, q2⟩ := addGo_spec l out (mrg s y)
         ⟨fun z hz => h.1 z (by simp at hz ⊢; rcases hz with hz | hz <;> simp [hz]), by
          rw [List.pairwise_append]; exact ⟨p1, p2.2, fun a ha b hb => p3 a ha b (by simp [hb])⟩⟩
         (fun o hoo => by have h1 := ho o hoo; have h2 := p3 o hoo y (by simp); rw [hf]; split <;> omega)
         (by rw [hf, ht]; split <;> split <;> omega)
       refine ⟨q1, fun x => ?_⟩; rw [q2, inS_cons, hf, ht]
       constructor
       · rintro (hh | hh | hh)
         · exact .inl hh
         · exact .inr (.inl (.inr hh))
         · rcases Classical.em (s.f ≤ x ∧ x ≤ s.t) with h1 | h1
           · exact .inr (.inr h1)
           · refine .inr (.inl (.inl ?_))
             revert hh; split <;> split <;> omega
       · rintro (hh | (hh | hh) | hh)
         · exact .inl hh
         · refine .inr (.inr ?_); split <;> split <;> omega
         · exact .inr (.inl hh)
         · refine .inr (.inr ?_); split <;> split <;> omega
theorem okSp_iff {l : List Sp} {s : Sp} : okSp l s = true ↔ PW l ∧ s.f ≤ s.t := by simp [okSp, spSoundB_PW]
theorem addS_spec {l : List Sp} {s : Sp} (h : PW l) (hs : s.f ≤ s.t) : PW (addS l s) ∧ ∀ x, inS x (addS l s) ↔ inS x l ∨ (s.f ≤ x ∧ x ≤ s.t) := by
 have hok := okSp_iff.2 ⟨h, hs⟩; obtain ⟨h1, h2⟩ := addGo_spec l [] s (by simpa using h) (by simp) hs; rw [addS, hok, if_pos rfl]; refine ⟨h1, fun x => ?_⟩; rw [h2, inS_nil]; simp
/-! ### The reference's: sorted, joined -/
theorem mem_insR {l : List Sp} {x y : Sp} : y ∈ insR l x ↔ y = x ∨ y ∈ l := by
 unfold insR; simp only [List.mem_append, List.mem_singleton]; have := List.take_append_drop (rankR l x) l
 constructor
 · rintro ((h | h) | h)
   · exact .inr (List.mem_of_mem_take h)
   · exact .inl h
   · exact .inr (List.mem_of_mem_drop h)
 · rintro (h | h)
   · exact .inl (.inr h)
   · rw [← this, List.mem_append] at h; rcases h with h | h
     · exact .inl (.inl h)
     · exact .inr h
def UpF (l : List Sp) : Prop := l.Pairwise (fun a b => a.f ≤ b.f)
theorem mem_tw {p : Sp → Bool} : ∀ {l : List Sp} {y : Sp}, y ∈ l.takeWhile p → p y = true
  | [], _, h => by simp at h
  | x :: l, y, h => by
   rw [List.takeWhile_cons] at h; split at h
   · rename_i hp
     rcases List.mem_cons.1 h with rfl | h
     · exact hp
     · exact mem_tw h
   · cases h
theorem dw_head {p : Sp → Bool} : ∀ {l : List Sp} {z : Sp} {r : List Sp}, l.dropWhile p = z :: r → p z = false
  | [], _, _, h => by simp at h
  | x :: l, z, r, h => by
   rw [List.dropWhile_cons] at h; split at h
   · exact dw_head h
   · rename_i hp
     injection h with h1 _
     rw [← h1]; simpa using hp
theorem insR_up {l : List Sp} {x : Sp} (h : UpF l) : UpF (insR l x) := by
 have hsplit := List.take_append_drop (rankR l x) l; have htw : l.take (rankR l x) = l.takeWhile (fun y => decide (y.f ≤ x.f)) := by
  have := List.takeWhile_append_dropWhile (p := fun y : Sp => decide (y.f ≤ x.f)) (l := l); unfold rankR
  conv => lhs; arg 2; rw [← this]
  rw [List.take_left]
 have hdw : l.drop (rankR l x) = l.dropWhile (fun y => decide (y.f ≤ x.f)) := by
  have := List.takeWhile_append_dropWhile (p := fun y : Sp => decide (y.f ≤ x.f)) (l := l); unfold rankR
  conv => lhs; arg 2; rw [← this]
  rw [List.drop_left]
 have hu : UpF (l.take (rankR l x) ++ l.drop (rankR l x)) := by rw [hsplit]; exact h
 unfold UpF at *; rw [List.pairwise_append] at hu; obtain ⟨h1, h2, h3⟩ := hu; unfold insR; rw [List.append_assoc, List.pairwise_append, List.singleton_append, List.pairwise_cons]; have ht : ∀ y ∈ l.take (rankR l x), y.f ≤ x.f := fun y hy => by
  rw [htw] at hy
  simpa using mem_tw hy
 have hd : ∀ y ∈ l.drop (rankR l x), x.f ≤ y.f := by
  intro y hy; rw [hdw] at hy h2; cases hdl : l.dropWhile (fun y => decide (y.f ≤ x.f)) with
  | nil => rw [hdl] at hy; cases hy
  | cons z r =>
   have hz : ¬ (z.f ≤ x.f) := by
    simpa using dw_head hdl
   rw [hdl] at hy h2; rcases List.mem_cons.1 hy with rfl | hy
   · omega
   · have := (List.pairwise_cons.1 h2).1 y hy; omega
 refine ⟨h1, ⟨hd, h2⟩, fun a ha b hb => ?_⟩; rcases List.mem_cons.1 hb with rfl | hb
 · exact ht a ha
 · exact h3 a ha b hb
theorem sortR_spec (l : List Sp) : UpF (sortR l) ∧ ∀ y, y ∈ sortR l ↔ y ∈ l := by
 suffices h : ∀ (l a : List Sp), UpF a → UpF (l.foldl insR a) ∧ ∀ y, y ∈ l.foldl insR a ↔ y ∈ l ∨ y ∈ a by
  obtain ⟨h1, h2⟩ := h l [] (by simp [UpF]); exact ⟨h1, fun y => by rw [sortR, h2]; simp⟩
 intro l
 induction l with
 | nil => intro a ha; exact ⟨ha, fun y => by simp⟩
 | cons x l ih =>
  intro a ha; obtain ⟨h1, h2⟩ := ih (insR a x) (insR_up ha); refine ⟨h1, fun y => ?_⟩; simp only [List.foldl_cons]; rw [h2, mem_insR, List.mem_cons]
  constructor
  · rintro (h | h | h)
    · exact .inl (.inr h)
    · exact .inl (.inl h)
    · exact .inr h
  · rintro ((h | h) | h)
    · exact .inr (.inl h)
    · exact .inl h
    · exact .inr (.inr h)
theorem joinPut_nil (x : Sp) : joinPut [] x = [x] := rfl
theorem joinPut_snoc (o : List Sp) (z x : Sp) : joinPut (o ++ [z]) x = if touchR z x then o ++ [⟨z.f, if z.t < x.t then x.t else z.t⟩] else o ++ [z] ++ [x] := by
 unfold joinPut; rw [dif_pos (by simp)]; have e : (o ++ [z]).length - 1 = o.length := by simp
 have g : (o ++ [z])[(o ++ [z]).length - 1]'(by simp) = z := by simp
 rw [g]; split
 · rw [e, List.set_append_right _ _ (Nat.le_refl _)]; simp
 · rfl
theorem touchR_iff {z x : Sp} (hz : z.wf) (hx : x.wf) : touchR z x = true ↔ x.f ≤ z.t + 1 := by
 unfold touchR Sp.wf at *; simp only [Bool.or_eq_true, decide_eq_true_eq, beq_iff_eq]; by_cases h : z.t < 9223372036854775807
 · rw [IntWalk.wrap64_in _ ⟨by omega, by omega⟩]; omega
 · constructor
   · intro _; omega
   · intro _; left; omega
theorem joinFold_spec : ∀ (l out : List Sp), UpF l → (∀ x ∈ l, x.f ≤ x.t ∧ x.wf) → PW out → (∀ o ∈ out, o.wf) → (∀ o ∈ out, ∀ x ∈ l, o.f ≤ x.f) →
    PW (l.foldl joinPut out) ∧ ∀ t, inS t (l.foldl joinPut out) ↔ inS t out ∨ inS t l
  | [], out, _, _, ho, _, _ => ⟨ho, fun t => by simp [inS_nil]⟩
  | x :: l, out, hu, hl, ho, how, hle => by
   have hx := hl x (by simp); have hu' := List.pairwise_cons.1 hu; have key : PW (joinPut out x) ∧ (∀ o ∈ joinPut out x, o.wf) ∧ (∀ o ∈ joinPut out x, ∀ y ∈ l, o.f ≤ y.f) ∧ ∀ t, inS t (joinPut out x) ↔ inS t out ∨ (x.f ≤ t ∧ t ≤ x.t) := by
    rcases List.eq_nil_or_concat out with rfl | ⟨o, z, rfl⟩
    · rw [joinPut_nil]; exact ⟨⟨by simp; exact hx.1, by simp⟩, by simp; exact hx.2, by simp; exact hu'.1, fun t => by simp [inS]⟩
    · simp only [List.concat_eq_append] at ho how hle ⊢; rw [joinPut_snoc]; have hz := how z (by simp); have hzt := ho.1 z (by simp); have hzx := hle z (by simp) x (by simp); have hp := ho.2; rw [List.pairwise_append] at hp; split
      · rename_i ht
        have ht := (touchR_iff hz hx.2).1 ht; refine ⟨⟨fun s hs => ?_, ?_⟩, fun s hs => ?_, fun s hs y hy => ?_, fun t => ?_⟩
        · simp at hs; rcases hs with hs | rfl
          · exact ho.1 s (by simp [hs])
          · simp only; split <;> omega
        · rw [List.pairwise_append]; refine ⟨hp.1, by simp, fun a ha b hb => ?_⟩; simp at hb; subst hb; exact hp.2.2 a ha z (by simp)
        · simp at hs; rcases hs with hs | rfl
          · exact how s (by simp [hs])
          · have hx2 := hx.2; unfold Sp.wf at *; simp only; split <;> omega
        · simp at hs; rcases hs with hs | rfl
          · exact hle s (by simp [hs]) y (by simp [hy])
          · exact hle z (by simp) y (by simp [hy])
        · rw [inS_append, inS_append, inS_cons, inS_cons, inS_nil]; simp only [or_false]
          constructor
          · rintro (h | h)
            · exact .inl (.inl h)
            · rcases Classical.em (z.f ≤ t ∧ t ≤ z.t) with h1 | h1
              · exact .inl (.inr h1)
              · refine .inr ?_; revert h; split <;> omega
          · rintro ((h | h) | h)
            · exact .inl h
            · refine .inr ?_; split <;> omega
            · refine .inr ?_; split <;> omega
      · rename_i ht
        have ht : ¬ x.f ≤ z.t + 1 := fun h => ht ((touchR_iff hz hx.2).2 h); refine ⟨⟨fun s hs => ?_, ?_⟩, fun s hs => ?_, fun s hs y hy => ?_, fun t => ?_⟩
        · simp at hs; rcases hs with hs | rfl | rfl
          · exact ho.1 s (by simp [hs])
          · exact hzt
          · exact hx.1
        · rw [List.pairwise_append]; refine ⟨ho.2, by simp, fun a ha b hb => ?_⟩; simp at hb; subst hb; simp at ha; rcases ha with ha | rfl
          · have := hp.2.2 a ha z (by simp); omega
          · omega
        · simp at hs; rcases hs with hs | rfl | rfl
          · exact how s (by simp [hs])
          · exact hz
          · exact hx.2
        · simp at hs; rcases hs with hs | rfl | rfl
          · exact hle s (by simp [hs]) y (by simp [hy])
          · exact hle s (by simp) y (by simp [hy])
          · exact hu'.1 y hy
        · rw [inS_append, inS_cons, inS_nil, or_false]
   obtain ⟨k1, k2, k3, k4⟩ := key; obtain ⟨g1, g2⟩ := joinFold_spec l (joinPut out x) hu'.2 (fun y hy => hl y (by simp [hy])) k1 k2 k3; refine ⟨g1, fun t => ?_⟩; simp only [List.foldl_cons]; rw [g2, k4, inS_cons, or_assoc]
theorem inS_perm {a b : List Sp} (h : ∀ y, y ∈ a ↔ y ∈ b) (t : Int) : inS t a ↔ inS t b := by
 constructor <;> rintro ⟨s, hs, h1⟩
 · exact ⟨s, (h s).1 hs, h1⟩
 · exact ⟨s, (h s).2 hs, h1⟩
theorem add_same {l : List Sp} {s : Sp} (hl : ∀ x ∈ l, x.wf) (hs : s.wf) : addS l s = raddS l s := by
 cases h : okSp l s with
 | false => simp [addS, raddS, h]
 | true =>
  obtain ⟨h1, h2⟩ := okSp_iff.1 h; obtain ⟨a1, a2⟩ := addS_spec h1 h2; have hall : ∀ x ∈ sortR (l ++ [s]), x.f ≤ x.t ∧ x.wf := fun x hx => by
   rw [(sortR_spec _).2] at hx; simp at hx; rcases hx with hx | rfl
   · exact ⟨h1.1 x hx, hl x hx⟩
   · exact ⟨h2, hs⟩
  obtain ⟨b1, b2⟩ := joinFold_spec (sortR (l ++ [s])) [] (sortR_spec _).1 hall ⟨by simp, by simp⟩ (by simp) (by simp); have e : raddS l s = (sortR (l ++ [s])).foldl joinPut [] := by rw [raddS, h, if_pos rfl]; rfl
  rw [e]; refine PW_ext a1 b1 fun t => ?_; rw [a2, b2, inS_nil, false_or, inS_perm (sortR_spec _).2, inS_append, inS_cons, inS_nil, or_false]
/-! ### Drop, Meet -/
end
end Go.Proofs.YtoolooffpphmdaaGreatDoor
