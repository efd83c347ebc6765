/- Walks: the reference's sorted, joined, Add. -/
import Derived.Test.YtbkekpfancbemaaSpanD
import Derived.BigRegion
import Derived.RegionTactic
namespace Go.Proofs.Ytbkekpfancbemaa
set_option linter.unusedVariables false
set_option linter.unusedSimpArgs false
open Go.RowKit

/-- where a span stands among sorted ones -/
def rankR (l : List Sp) (x : Sp) : Nat := (l.takeWhile fun y => decide (y.f ≤ x.f)).length
def insR (l : List Sp) (x : Sp) : List Sp := l.take (rankR l x) ++ [x] ++ l.drop (rankR l x)
def sortR (l : List Sp) : List Sp := l.foldl insR []
theorem rankR_le (l : List Sp) (x : Sp) : rankR l x ≤ l.length := (List.takeWhile_sublist _).length_le
theorem insR_len (l : List Sp) (x : Sp) : (insR l x).length = l.length + 1 := by
  have := rankR_le l x
  simp only [insR, List.length_append, List.length_take, List.length_drop, List.length_singleton]; omega
theorem sortR_snoc (l : List Sp) (x : Sp) : sortR (l ++ [x]) = insR (sortR l) x := by simp [sortR]
theorem sortR_len (l : List Sp) : (sortR l).length = l.length := by
  suffices h : ∀ (l a : List Sp), (l.foldl insR a).length = a.length + l.length by simpa [sortR] using h l []
  intro l
  induction l with
  | nil => simp
  | cons x l ih => intro a; simp only [List.foldl_cons, ih, insR_len, List.length_cons]; omega
theorem takeWhile_rank {l : List Sp} {p : Sp → Bool} {k : Nat} (h1 : ∀ i (hi : i < k) (h : i < l.length), p l[i] = true) (hk : k ≤ l.length) (h2 : ∀ h : k < l.length, p l[k] = false) : (l.takeWhile p).length = k := by
  induction l generalizing k with
  | nil => simp at hk; simp [hk]
  | cons x l ih =>
    cases k with
    | zero => have := h2 (by simp); simp only [List.getElem_cons_zero] at this; simp [List.takeWhile_cons, this]
    | succ k =>
      have h0 := h1 0 (by omega) (by simp)
      simp only [List.getElem_cons_zero] at h0
      rw [List.takeWhile_cons, if_pos h0, List.length_cons, ih (k := k)]
      · intro i hi h; have := h1 (i + 1) (by omega) (by simp; omega); simpa using this
      · simpa using hk
      · intro h; have := h2 (by simpa using h); simpa using this
def rankTo (l : List Sp) (x : Sp) (k : Nat) : Prop := ∀ i (_ : i < k) (h : i < l.length), decide (l[i].f ≤ x.f) = true
theorem rankTo_zero (l : List Sp) (x : Sp) : rankTo l x 0 := fun i h => absurd h (Nat.not_lt_zero i)
theorem rankTo_succ {l : List Sp} {x : Sp} {k : Nat} (h : rankTo l x k) (hk : k < l.length) (h2 : decide (l[k].f ≤ x.f) = true) : rankTo l x (k + 1) := by
  intro i hi hl
  rcases Nat.lt_or_ge i k with hlt | hge
  · exact h i hlt hl
  · obtain rfl : i = k := by omega
    exact h2
theorem rankTo_end {l : List Sp} {x : Sp} {k : Nat} (h : rankTo l x k) (hk : k ≤ l.length) (h2 : ∀ hh : k < l.length, decide (l[k].f ≤ x.f) = false) : rankR l x = k := takeWhile_rank h hk h2

set_option maxRecDepth 100000 in
set_option maxHeartbeats 4000000 in
theorem sorted_any (xs : List Sp) (a : Option Addr) (cap : Nat) (w : World) (hs : SlS w a cap xs) (hb : xs.length ≤ 100000) :
    Calls Try.prog 67 #[.slice a xs.length cap] w (Gives w fun v w' => OwnS w.heap.size w' v (sortR xs)) := by
  have hmax := len_max hs
  go_enter Try.func67, Try.ntmps67
  go_wp2
  go_loopw [3, 4] (fun out i wr => ∃ (k : Nat) (ys : List Sp), k ≤ xs.length ∧ i = .int .i64 k ∧ Ov w wr ∧ OwnS w.heap.size wr out ys ∧ ys.length ≤ k ∧ Hid (ys = sortR (xs.take k))) (fun _ i _ => xs.length - (intOf i).toNat)
  case atStart => exact ⟨0, [], Nat.zero_le _, rfl, over_self w, Own.nil _, Nat.le_refl _, hid rfl⟩
  case round =>
    obtain ⟨k, ys, hk, rfl, ⟨e, rfl⟩, hown, hyl, hys⟩ := hrel
    by_cases hlt : k < xs.length
    · obtain ⟨b, off, rfl, hb, c0, c1⟩ := hs.at_ hlt
      obtain ⟨ao, co, rfl, hso⟩ := Own.slice Sp.cs_len hown
      have mo := len_max hso
      go_wp2_with fail
      go_loopw [5] (fun j wr => ∃ (m : Nat), m ≤ ys.length ∧ j = .int .i64 m ∧ Ov (over w e) wr ∧ Hid (rankTo ys xs[k] m)) (fun j _ => ys.length - (intOf j).toNat)
      case atStart => exact ⟨0, Nat.zero_le _, rfl, over_self _, hid (rankTo_zero _ _)⟩
      case round =>
        obtain ⟨m, hm, rfl, ⟨e2, rfl⟩, hto⟩ := hrel
        by_cases hml : m < ys.length
        · obtain ⟨b2, o2, rfl, hb2, d0, d1⟩ := SlS.at_ hso hml
          simp only [size_over] at hb2
          have hd : decide (m < ys.length) = true := by simpa using hml
          cases h1 : decide (ys[m].f ≤ xs[k].f)
          · have hr := hid (rankTo_end hto.out (by omega) (fun _ => h1))
            go_wp2_with fail
            refine wp_region_over (by kernel_rfl) (by kernel_rfl) ?_
            repeat (go_big_quiet_step (fail))
            refine wpQuiet_nil ?_
            intro _ hw'
            obtain ⟨nq, rfl⟩ := hw'
            clear d0 d1 h1 hd
            obtain ⟨a3, c3, q3, s3⟩ := run_take span_elem hso hm
            obtain ⟨a4, c4, q4, s4⟩ := run_drop span_elem hso hm
            obtain ⟨fs, hfs⟩ : ∃ fs, fs = ys.take m := ⟨_, rfl⟩
            obtain ⟨gs, hgs⟩ : ∃ gs, gs = ys.drop m := ⟨_, rfl⟩
            rw [← hfs] at q3 s3
            rw [← hgs] at q4 s4
            have lf : fs.length ≤ 100000 := by rw [hfs, List.length_take]; omega
            have lg : gs.length ≤ 100000 := by rw [hgs, List.length_drop]; omega
            have Hfs := hid hfs
            have Hgs := hid hgs
            clear hfs hgs
            go_wp2_with (first | (at_builtin; refine wpList_append span_elem Sp.cs_len Sp.cs_one rfl (.tmp 32) (.tmp 35) rfl (B := over w e) (ys := []) (xs := fs) (Own.nil (base := (over w e).heap.size) _) rfl rfl (over_self _) (by (try unfold Ov); repeat (first | with_reducible exact ex_over | with_reducible exact over_self _ | with_reducible refine ex_into ?_ _ | with_reducible refine ex_alloc ?_ _ | with_reducible refine ex_drew ?_ | ((with_reducible refine ex_setCell ?_ ?_ _); rotate_left; (first | omega | (simp; done) | (simp; omega))) | exact ex_over)) (Nat.le_refl _) (by simp; try omega) (by repeat (first | with_reducible exact s3 | with_reducible refine Sl.over ?_ _ | with_reducible refine Sl.alloc ?_ _ | with_reducible refine Sl.drew ?_ | exact s3)) (by unfold maxLen; simp; omega) (by simp; omega) ?_; intro v1 x1 hown1 _ _; rw [List.nil_append] at hown1) | (at_builtin; refine wpList_append span_elem Sp.cs_len Sp.cs_one rfl (.tmp 37) (.tmp 42) rfl (B := over w e) (xs := [xs[k]]) hown1 rfl rfl (by (try unfold Ov); repeat (first | with_reducible exact ex_over | with_reducible exact over_self _ | with_reducible refine ex_into ?_ _ | with_reducible refine ex_alloc ?_ _ | with_reducible refine ex_drew ?_ | ((with_reducible refine ex_setCell ?_ ?_ _); rotate_left; (first | omega | (simp; done) | (simp; omega))) | exact ex_over)) (by (try unfold Ov); repeat (first | with_reducible exact ex_over | with_reducible exact over_self _ | with_reducible refine ex_into ?_ _ | with_reducible refine ex_alloc ?_ _ | with_reducible refine ex_drew ?_ | ((with_reducible refine ex_setCell ?_ ?_ _); rotate_left; (first | omega | (simp; done) | (simp; omega))) | exact ex_over)) (by simp) (by simp; try omega) (by first | exact Sl.one_new (y := xs[k]) (by simp; try omega) | exact Sl.drew (Sl.one_new (y := xs[k]) (by simp; try omega))) (by simp only [List.length_append, List.length_singleton]; unfold maxLen; omega) (by simp only [List.length_append, List.length_singleton]; omega) ?_; intro v2 x2 hown2 _ _) | (at_builtin; refine wpList_append span_elem Sp.cs_len Sp.cs_one rfl (.tmp 44) (.tmp 47) rfl (B := over w e) (xs := gs) hown2 rfl rfl (by (try unfold Ov); repeat (first | with_reducible exact ex_over | with_reducible exact over_self _ | with_reducible refine ex_into ?_ _ | with_reducible refine ex_alloc ?_ _ | with_reducible refine ex_drew ?_ | ((with_reducible refine ex_setCell ?_ ?_ _); rotate_left; (first | omega | (simp; done) | (simp; omega))) | exact ex_over)) (by (try unfold Ov); repeat (first | with_reducible exact ex_over | with_reducible exact over_self _ | with_reducible refine ex_into ?_ _ | with_reducible refine ex_alloc ?_ _ | with_reducible refine ex_drew ?_ | ((with_reducible refine ex_setCell ?_ ?_ _); rotate_left; (first | omega | (simp; done) | (simp; omega))) | exact ex_over)) (Nat.le_refl _) (by simp; try omega) (by repeat (first | with_reducible exact s4 | with_reducible refine Sl.over ?_ _ | with_reducible refine Sl.alloc ?_ _ | with_reducible refine Sl.drew ?_ | exact s4)) (by unfold maxLen; simp; omega) (by simp; omega) ?_; intro v3 x3 hown3 _ _))
            go_roundw
            case rel => exact ⟨k + 1, _, by omega, by go_num, (by (try unfold Ov); repeat (first | with_reducible exact ex_over | with_reducible exact over_self _ | with_reducible refine ex_into ?_ _ | with_reducible refine ex_alloc ?_ _ | with_reducible refine ex_drew ?_ | ((with_reducible refine ex_setCell ?_ ?_ _); rotate_left; (first | omega | (simp; done) | (simp; omega))) | exact ex_over)), Own.mono hown3 (by simp), by simp; rw [Hfs.out, Hgs.out, List.length_take, List.length_drop]; omega, hid (by rw [take_snoc' hlt, sortR_snoc, ← hys.out, insR, hr.out, ← Hfs.out, ← Hgs.out])⟩
            case measure => simp [intOf]; omega
          · have H1 := hid h1
            go_wp2_with fail
            refine wp_region_over (by kernel_rfl) (by kernel_rfl) ?_
            repeat (go_big_quiet_step (fail))
            refine wpQuiet_nil ?_
            intro _ hw'
            obtain ⟨nq, rfl⟩ := hw'
            go_wp2_with fail
            go_roundw
            case rel => exact ⟨m + 1, by omega, by go_num, (by (try unfold Ov); repeat (first | with_reducible exact ex_over | with_reducible exact over_self _ | with_reducible refine ex_into ?_ _ | with_reducible refine ex_alloc ?_ _ | with_reducible refine ex_drew ?_ | ((with_reducible refine ex_setCell ?_ ?_ _); rotate_left; (first | omega | (simp; done) | (simp; omega))) | exact ex_over)), hid (rankTo_succ hto.out hml H1.out)⟩
            case measure => simp [intOf]; omega
        · have hr := hid (rankTo_end hto.out hm (fun h => absurd h hml))
          have hd : decide (m < ys.length) = false := by simpa using hml
          go_wp2_with fail
          refine wp_region_over (by kernel_rfl) (by kernel_rfl) ?_
          repeat (go_big_quiet_step (fail))
          refine wpQuiet_nil ?_
          intro _ hw'
          obtain ⟨nq, rfl⟩ := hw'
          clear hd
          obtain ⟨a3, c3, q3, s3⟩ := run_take span_elem hso hm
          obtain ⟨a4, c4, q4, s4⟩ := run_drop span_elem hso hm
          obtain ⟨fs, hfs⟩ : ∃ fs, fs = ys.take m := ⟨_, rfl⟩
          obtain ⟨gs, hgs⟩ : ∃ gs, gs = ys.drop m := ⟨_, rfl⟩
          rw [← hfs] at q3 s3
          rw [← hgs] at q4 s4
          have lf : fs.length ≤ 100000 := by rw [hfs, List.length_take]; omega
          have lg : gs.length ≤ 100000 := by rw [hgs, List.length_drop]; omega
          have Hfs := hid hfs
          have Hgs := hid hgs
          clear hfs hgs
          go_wp2_with (first | (at_builtin; refine wpList_append span_elem Sp.cs_len Sp.cs_one rfl (.tmp 32) (.tmp 35) rfl (B := over w e) (ys := []) (xs := fs) (Own.nil (base := (over w e).heap.size) _) rfl rfl (over_self _) (by (try unfold Ov); repeat (first | with_reducible exact ex_over | with_reducible exact over_self _ | with_reducible refine ex_into ?_ _ | with_reducible refine ex_alloc ?_ _ | with_reducible refine ex_drew ?_ | ((with_reducible refine ex_setCell ?_ ?_ _); rotate_left; (first | omega | (simp; done) | (simp; omega))) | exact ex_over)) (Nat.le_refl _) (by simp; try omega) (by repeat (first | with_reducible exact s3 | with_reducible refine Sl.over ?_ _ | with_reducible refine Sl.alloc ?_ _ | with_reducible refine Sl.drew ?_ | exact s3)) (by unfold maxLen; simp; omega) (by simp; omega) ?_; intro v1 x1 hown1 _ _; rw [List.nil_append] at hown1) | (at_builtin; refine wpList_append span_elem Sp.cs_len Sp.cs_one rfl (.tmp 37) (.tmp 42) rfl (B := over w e) (xs := [xs[k]]) hown1 rfl rfl (by (try unfold Ov); repeat (first | with_reducible exact ex_over | with_reducible exact over_self _ | with_reducible refine ex_into ?_ _ | with_reducible refine ex_alloc ?_ _ | with_reducible refine ex_drew ?_ | ((with_reducible refine ex_setCell ?_ ?_ _); rotate_left; (first | omega | (simp; done) | (simp; omega))) | exact ex_over)) (by (try unfold Ov); repeat (first | with_reducible exact ex_over | with_reducible exact over_self _ | with_reducible refine ex_into ?_ _ | with_reducible refine ex_alloc ?_ _ | with_reducible refine ex_drew ?_ | ((with_reducible refine ex_setCell ?_ ?_ _); rotate_left; (first | omega | (simp; done) | (simp; omega))) | exact ex_over)) (by simp) (by simp; try omega) (by first | exact Sl.one_new (y := xs[k]) (by simp; try omega) | exact Sl.drew (Sl.one_new (y := xs[k]) (by simp; try omega))) (by simp only [List.length_append, List.length_singleton]; unfold maxLen; omega) (by simp only [List.length_append, List.length_singleton]; omega) ?_; intro v2 x2 hown2 _ _) | (at_builtin; refine wpList_append span_elem Sp.cs_len Sp.cs_one rfl (.tmp 44) (.tmp 47) rfl (B := over w e) (xs := gs) hown2 rfl rfl (by (try unfold Ov); repeat (first | with_reducible exact ex_over | with_reducible exact over_self _ | with_reducible refine ex_into ?_ _ | with_reducible refine ex_alloc ?_ _ | with_reducible refine ex_drew ?_ | ((with_reducible refine ex_setCell ?_ ?_ _); rotate_left; (first | omega | (simp; done) | (simp; omega))) | exact ex_over)) (by (try unfold Ov); repeat (first | with_reducible exact ex_over | with_reducible exact over_self _ | with_reducible refine ex_into ?_ _ | with_reducible refine ex_alloc ?_ _ | with_reducible refine ex_drew ?_ | ((with_reducible refine ex_setCell ?_ ?_ _); rotate_left; (first | omega | (simp; done) | (simp; omega))) | exact ex_over)) (Nat.le_refl _) (by simp; try omega) (by repeat (first | with_reducible exact s4 | with_reducible refine Sl.over ?_ _ | with_reducible refine Sl.alloc ?_ _ | with_reducible refine Sl.drew ?_ | exact s4)) (by unfold maxLen; simp; omega) (by simp; omega) ?_; intro v3 x3 hown3 _ _))
          go_roundw
          case rel => exact ⟨k + 1, _, by omega, by go_num, (by (try unfold Ov); repeat (first | with_reducible exact ex_over | with_reducible exact over_self _ | with_reducible refine ex_into ?_ _ | with_reducible refine ex_alloc ?_ _ | with_reducible refine ex_drew ?_ | ((with_reducible refine ex_setCell ?_ ?_ _); rotate_left; (first | omega | (simp; done) | (simp; omega))) | exact ex_over)), Own.mono hown3 (by simp), by simp; rw [Hfs.out, Hgs.out, List.length_take, List.length_drop]; omega, hid (by rw [take_snoc' hlt, sortR_snoc, ← hys.out, insR, hr.out, ← Hfs.out, ← Hgs.out])⟩
          case measure => simp [intOf]; omega
    · go_wp2_with fail
      go_ret
      have h := hys.out
      rw [List.take_of_length_le (by omega)] at h
      exact ⟨(by (try unfold Ov); repeat (first | with_reducible exact ex_over | with_reducible exact over_self _ | with_reducible refine ex_into ?_ _ | with_reducible refine ex_alloc ?_ _ | with_reducible refine ex_drew ?_ | ((with_reducible refine ex_setCell ?_ ?_ _); rotate_left; (first | omega | (simp; done) | (simp; omega))) | exact ex_over)), _, rfl, by rw [← h]; exact hown⟩

def touchR (z x : Sp) : Bool := decide (x.f ≤ z.t) || (x.f == wrap64 (z.t + 1))
def joinPut (out : List Sp) (x : Sp) : List Sp :=
  if h : 0 < out.length then
    if touchR (out[out.length - 1]'(by omega)) x then out.set (out.length - 1) ⟨(out[out.length - 1]'(by omega)).f, if (out[out.length - 1]'(by omega)).t < x.t then x.t else (out[out.length - 1]'(by omega)).t⟩ else out ++ [x]
  else out ++ [x]
def joinR (l : List Sp) : List Sp := (sortR l).foldl joinPut []
theorem joinPut_len (out : List Sp) (x : Sp) : (joinPut out x).length ≤ out.length + 1 := by
  unfold joinPut; split <;> (try split) <;> simp
theorem joinPut_0 {out : List Sp} {x : Sp} (h : ¬ 0 < out.length) : joinPut out x = out ++ [x] := by unfold joinPut; rw [dif_neg h]
theorem joinPut_1 {out : List Sp} {x : Sp} (h : 0 < out.length) (ht : touchR out[out.length - 1] x = false) : joinPut out x = out ++ [x] := by unfold joinPut; rw [dif_pos h, ht]; rfl
theorem joinPut_2 {out : List Sp} {x z : Sp} (h : 0 < out.length) (ht : touchR out[out.length - 1] x = true) (hz : z = ⟨out[out.length - 1].f, if out[out.length - 1].t < x.t then x.t else out[out.length - 1].t⟩) : joinPut out x = out.set (out.length - 1) z := by unfold joinPut; rw [dif_pos h, ht, hz]; rfl
theorem foldl_snoc' {α β : Type} (f : β → α → β) (b : β) (l : List α) (x : α) : (l ++ [x]).foldl f b = f (l.foldl f b) x := by simp

theorem OwnS.open_ {base : Nat} {w : World} {v : Value} {xs : List Sp} (h : OwnS base w v xs) (h0 : 0 < xs.length) :
    ∃ g cap, v = .slice (some ⟨g, 0, none⟩) xs.length cap ∧ base ≤ g ∧ g < w.heap.size ∧ w.cell? ⟨g, (xs.length - 1) * 2, none⟩ = some (.int .i64 xs[xs.length - 1].f) ∧ w.cell? ⟨g, (xs.length - 1) * 2 + 1, none⟩ = some (.int .i64 xs[xs.length - 1].t) ∧ w.frozen? ⟨g, (xs.length - 1) * 2 + 1, none⟩ = false := by
  obtain ⟨g, cap, h1, h2, h3, h4, h5⟩ := Own.open_ Sp.cs_len h h0
  have hx : xs[xs.length - 1]? = some xs[xs.length - 1] := List.getElem?_eq_getElem (by omega)
  exact ⟨g, cap, h1, h2, h3, h4 _ _ hx 0 _ rfl, h4 _ _ hx 1 _ rfl, h5 _⟩

set_option maxRecDepth 100000 in
set_option maxHeartbeats 4000000 in
theorem joined_any (xs : List Sp) (a : Option Addr) (cap : Nat) (w : World) (hs : SlS w a cap xs) (hb : xs.length ≤ 100000) :
    Calls Try.prog 56 #[.slice a xs.length cap] w (Gives w fun v w' => OwnS w.heap.size w' v (joinR xs)) := by
  have HS := hid (sorted_any xs a cap w hs hb)
  obtain ⟨ss, hss⟩ : ∃ ss, ss = sortR xs := ⟨_, rfl⟩
  have hsl : ss.length ≤ 100000 := by rw [hss, sortR_len]; exact hb
  have Hss := hid hss
  clear hs hss
  go_enter Try.func56, Try.ntmps56
  go_wp2_with (go_at_call 67; refine HS.out.mono ?_; rintro _ _ ⟨⟨e0, rfl⟩, v0, rfl, hso⟩; rw [← Hss.out] at hso; obtain ⟨ao, co, rfl, hs⟩ := Own.slice Sp.cs_len hso; clear hso)
  go_loopw [3, 5] (fun out i wr => ∃ (k : Nat) (ys : List Sp), k ≤ ss.length ∧ i = .int .i64 k ∧ Ov (over w e0) wr ∧ OwnS (over w e0).heap.size wr out ys ∧ ys.length ≤ k ∧ Hid (ys = (ss.take k).foldl joinPut [])) (fun _ i _ => ss.length - (intOf i).toNat)
  case atStart => exact ⟨0, [], Nat.zero_le _, rfl, over_self _, Own.nil _, Nat.le_refl _, hid rfl⟩
  case round =>
    obtain ⟨k, ys, hk, rfl, ⟨e, rfl⟩, hown, hyl, hys⟩ := hrel
    by_cases hlt : k < ss.length
    · obtain ⟨b, off, rfl, hb, c0, c1⟩ := SlS.at_ hs hlt
      simp only [size_over] at hb
      by_cases hn : 0 < ys.length
      · obtain ⟨g, cg, rfl, hg1, hg2, d0, d1, d2⟩ := OwnS.open_ hown hn
        simp only [size_over] at hg1 hg2
        have mo : ys.length ≤ 100000 := by omega
        have hd : decide (0 < ys.length) = true := by simpa using hn
        cases h1 : decide (ss[k].f ≤ ys[ys.length - 1].t)
        · cases h2 : (ss[k].f == wrap64 (ys[ys.length - 1].t + 1))
          · have H := hid (joinPut_1 (x := ss[k]) hn (by rw [touchR, h1, h2]; rfl))
            go_wp2_with fail
            refine wp_region_over (by kernel_rfl) (by kernel_rfl) ?_
            repeat (go_big_quiet_step (fail))
            refine wpQuiet_nil ?_
            intro _ hw'
            obtain ⟨nq, rfl⟩ := hw'
            go_wp2_with (at_builtin; refine wpList_append span_elem Sp.cs_len Sp.cs_one rfl (.tmp 65) (.tmp 70) rfl (B := over w e0) (xs := [ss[k]]) hown rfl rfl (by (try unfold Ov); repeat (first | with_reducible exact ex_over | with_reducible exact over_self _ | with_reducible refine ex_into ?_ _ | with_reducible refine ex_alloc ?_ _ | with_reducible refine ex_drew ?_ | ((with_reducible refine ex_setCell ?_ ?_ _); rotate_left; (first | omega | (simp; done) | (simp; omega))) | exact ex_over)) (by (try unfold Ov); repeat (first | with_reducible exact ex_over | with_reducible exact over_self _ | with_reducible refine ex_into ?_ _ | with_reducible refine ex_alloc ?_ _ | with_reducible refine ex_drew ?_ | ((with_reducible refine ex_setCell ?_ ?_ _); rotate_left; (first | omega | (simp; done) | (simp; omega))) | exact ex_over)) (by simp) (by simp; try omega) (by first | exact Sl.one_new (y := ss[k]) (by simp; try omega) | exact Sl.drew (Sl.one_new (y := ss[k]) (by simp; try omega))) (by simp only [List.length_append, List.length_singleton]; unfold maxLen; omega) (by simp only [List.length_append, List.length_singleton]; omega) ?_; intro v2 x2 hown2 _ _)
            go_roundw
            case rel => exact ⟨k + 1, _, by omega, by go_num, (by (try unfold Ov); repeat (first | with_reducible exact ex_over | with_reducible exact over_self _ | with_reducible refine ex_into ?_ _ | with_reducible refine ex_alloc ?_ _ | with_reducible refine ex_drew ?_ | ((with_reducible refine ex_setCell ?_ ?_ _); rotate_left; (first | omega | (simp; done) | (simp; omega))) | exact ex_over)), hown2, by simp; omega, hid (by rw [take_snoc' hlt, foldl_snoc', ← hys.out, H.out])⟩
            case measure => simp [intOf]; omega
          · have HT := hid (show touchR ys[ys.length - 1] ss[k] = true by rw [touchR, h1, h2]; rfl)
            obtain ⟨M, hM⟩ : ∃ M : Sp, M = ⟨ys[ys.length - 1].f, if ys[ys.length - 1].t < ss[k].t then ss[k].t else ys[ys.length - 1].t⟩ := ⟨_, rfl⟩
            have e1 : (if ys[ys.length - 1].t < ss[k].t then ss[k].t else ys[ys.length - 1].t) = M.t := by rw [hM]
            have hcs : Hid (M.cs = (Sp.cs ys[ys.length - 1]).set 1 (.int .i64 M.t)) := by rw [hM]; rfl
            have HM := hid hM
            clear hM
            go_wp2_with fail
            refine wp_region_over (by kernel_rfl) (by kernel_rfl) ?_
            repeat (go_big_quiet_step (fail))
            refine wpQuiet_nil ?_
            intro _ hw'
            obtain ⟨nq, rfl⟩ := hw'
            go_wp2_with fail
            go_region
            go_wp2_with fail
            go_roundw
            case rel => exact ⟨k + 1, ys.set (ys.length - 1) M, by omega, by go_num, (by (try unfold Ov); repeat (first | with_reducible exact ex_over | with_reducible exact over_self _ | with_reducible refine ex_into ?_ _ | with_reducible refine ex_alloc ?_ _ | with_reducible refine ex_drew ?_ | ((with_reducible refine ex_setCell ?_ ?_ _); rotate_left; (first | omega | (simp; done) | (simp; omega))) | exact ex_over)), (by repeat (first | with_reducible refine Own.drew ?_ | with_reducible refine Own.over ?_ _ | exact Own.set_ (i := ys.length - 1) Sp.cs_len hown (by omega) M 1 _ hcs.out (by omega))), by simp; omega, hid (by rw [take_snoc' hlt, foldl_snoc', ← hys.out, joinPut_2 hn HT.out HM.out])⟩
            case measure => simp [intOf]; omega
        · have HT := hid (show touchR ys[ys.length - 1] ss[k] = true by rw [touchR, h1]; rfl)
          obtain ⟨M, hM⟩ : ∃ M : Sp, M = ⟨ys[ys.length - 1].f, if ys[ys.length - 1].t < ss[k].t then ss[k].t else ys[ys.length - 1].t⟩ := ⟨_, rfl⟩
          have e1 : (if ys[ys.length - 1].t < ss[k].t then ss[k].t else ys[ys.length - 1].t) = M.t := by rw [hM]
          have hcs : Hid (M.cs = (Sp.cs ys[ys.length - 1]).set 1 (.int .i64 M.t)) := by rw [hM]; rfl
          have HM := hid hM
          clear hM
          go_wp2_with fail
          refine wp_region_over (by kernel_rfl) (by kernel_rfl) ?_
          repeat (go_big_quiet_step (fail))
          refine wpQuiet_nil ?_
          intro _ hw'
          obtain ⟨nq, rfl⟩ := hw'
          go_wp2_with fail
          go_region
          go_wp2_with fail
          go_roundw
          case rel => exact ⟨k + 1, ys.set (ys.length - 1) M, by omega, by go_num, (by (try unfold Ov); repeat (first | with_reducible exact ex_over | with_reducible exact over_self _ | with_reducible refine ex_into ?_ _ | with_reducible refine ex_alloc ?_ _ | with_reducible refine ex_drew ?_ | ((with_reducible refine ex_setCell ?_ ?_ _); rotate_left; (first | omega | (simp; done) | (simp; omega))) | exact ex_over)), (by repeat (first | with_reducible refine Own.drew ?_ | with_reducible refine Own.over ?_ _ | exact Own.set_ (i := ys.length - 1) Sp.cs_len hown (by omega) M 1 _ hcs.out (by omega))), by simp; omega, hid (by rw [take_snoc' hlt, foldl_snoc', ← hys.out, joinPut_2 hn HT.out HM.out])⟩
          case measure => simp [intOf]; omega
      · obtain ⟨ao, co, rfl, _⟩ := Own.slice Sp.cs_len hown
        have mo : ys.length ≤ 100000 := by omega
        have hd : decide (0 < ys.length) = false := by simpa using hn
        have H := hid (joinPut_0 (x := ss[k]) hn)
        go_wp2_with fail
        refine wp_region_over (by kernel_rfl) (by kernel_rfl) ?_
        repeat (go_big_quiet_step (fail))
        refine wpQuiet_nil ?_
        intro _ hw'
        obtain ⟨nq, rfl⟩ := hw'
        go_wp2_with (at_builtin; refine wpList_append span_elem Sp.cs_len Sp.cs_one rfl (.tmp 65) (.tmp 70) rfl (B := over w e0) (xs := [ss[k]]) hown rfl rfl (by (try unfold Ov); repeat (first | with_reducible exact ex_over | with_reducible exact over_self _ | with_reducible refine ex_into ?_ _ | with_reducible refine ex_alloc ?_ _ | with_reducible refine ex_drew ?_ | ((with_reducible refine ex_setCell ?_ ?_ _); rotate_left; (first | omega | (simp; done) | (simp; omega))) | exact ex_over)) (by (try unfold Ov); repeat (first | with_reducible exact ex_over | with_reducible exact over_self _ | with_reducible refine ex_into ?_ _ | with_reducible refine ex_alloc ?_ _ | with_reducible refine ex_drew ?_ | ((with_reducible refine ex_setCell ?_ ?_ _); rotate_left; (first | omega | (simp; done) | (simp; omega))) | exact ex_over)) (by simp) (by simp; try omega) (by first | exact Sl.one_new (y := ss[k]) (by simp; try omega) | exact Sl.drew (Sl.one_new (y := ss[k]) (by simp; try omega))) (by simp only [List.length_append, List.length_singleton]; unfold maxLen; omega) (by simp only [List.length_append, List.length_singleton]; omega) ?_; intro v2 x2 hown2 _ _)
        go_roundw
        case rel => exact ⟨k + 1, _, by omega, by go_num, (by (try unfold Ov); repeat (first | with_reducible exact ex_over | with_reducible exact over_self _ | with_reducible refine ex_into ?_ _ | with_reducible refine ex_alloc ?_ _ | with_reducible refine ex_drew ?_ | ((with_reducible refine ex_setCell ?_ ?_ _); rotate_left; (first | omega | (simp; done) | (simp; omega))) | exact ex_over)), hown2, by simp; omega, hid (by rw [take_snoc' hlt, foldl_snoc', ← hys.out, H.out])⟩
        case measure => simp [intOf]; omega
    · go_wp2_with fail
      go_ret
      have h := hys.out
      rw [List.take_of_length_le (by omega)] at h
      exact ⟨(by (try unfold Ov); repeat (first | with_reducible exact ex_over | with_reducible exact over_self _ | with_reducible refine ex_into ?_ _ | with_reducible refine ex_alloc ?_ _ | with_reducible refine ex_drew ?_ | ((with_reducible refine ex_setCell ?_ ?_ _); rotate_left; (first | omega | (simp; done) | (simp; omega))) | exact ex_over)), _, rfl, by rw [joinR, ← Hss.out, ← h]; exact Own.mono hown (by simp)⟩
end Go.Proofs.Ytbkekpfancbemaa
