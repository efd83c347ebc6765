/- Walks: cmp.Compare, slices.BinarySearchFunc at span.find's closure, span.find, slices.Clone. -/
import Derived.Test.YtbkekpfancbemaaSpanA
namespace Go.Proofs.Ytbkekpfancbemaa
set_option linter.unusedVariables false
set_option linter.unusedSimpArgs false
open Go.RowKit

def cmpI (x y : Int) : Int := if x < y then -1 else if y < x then 1 else 0

set_option maxHeartbeats 400000 in
theorem isNaN_any (x : Int) (w : World) : Calls Try.prog 73 #[.int .i64 x] w fun en w' => en = .returned (.bool false) ∧ w = w' := by
  go_enter Try.func73, Try.ntmps73
  go_wp2
  go_ret
  exact ⟨ret_bool (by simp), rfl⟩

set_option maxHeartbeats 400000 in
theorem compare_any (x y : Int) (w : World) : Calls Try.prog 70 #[.int .i64 x, .int .i64 y] w fun en w' => en = .returned (.int .i64 (cmpI x y)) ∧ w = w' := by
  by_cases h1 : x < y
  · go_enter Try.func70, Try.ntmps70
    go_wp2_with (go_at_call 73; refine (isNaN_any _ _).mono ?_; rintro _ _ ⟨rfl, rfl⟩)
    go_ret
    exact ⟨ret_int (by simp [cmpI, h1]), rfl⟩
  · by_cases h2 : y < x
    · go_enter Try.func70, Try.ntmps70
      go_wp2_with (go_at_call 73; refine (isNaN_any _ _).mono ?_; rintro _ _ ⟨rfl, rfl⟩)
      go_ret
      exact ⟨ret_int (by rw [cmpI, if_neg (by omega), if_pos (by omega)]), rfl⟩
    · go_enter Try.func70, Try.ntmps70
      go_wp2_with (go_at_call 73; refine (isNaN_any _ _).mono ?_; rintro _ _ ⟨rfl, rfl⟩)
      go_ret
      exact ⟨ret_int (by rw [cmpI, if_neg (by omega), if_neg (by omega)]), rfl⟩

set_option maxHeartbeats 400000 in
theorem find1_any (x : Sp) (t : Int) (w : World) : Calls Try.prog 69 #[x.v, .int .i64 t] w (Ret w (.int .i64 (cmpI x.t t))) := by
  unfold Sp.v
  go_enter Try.func69, Try.ntmps69
  go_wp2_with (go_at_call 70; refine (compare_any _ _ _).mono ?_; rintro _ _ ⟨rfl, rfl⟩)
  go_ret
  exact ⟨(by (try unfold Ov); repeat (first | with_reducible exact ex_over | with_reducible exact over_self _ | with_reducible refine ex_into ?_ _ | with_reducible refine ex_alloc ?_ _ | with_reducible refine ex_drew ?_ | ((with_reducible refine ex_setCell ?_ ?_ _); rotate_left; (first | omega | (simp; done) | (simp; omega))) | exact ex_over)), rfl⟩

/-- the list rises about t -/
def risesAt (xs : List Sp) (t : Int) (n : Nat) : Prop := n ≤ xs.length ∧ ∀ m (h : m < xs.length), decide (xs[m].t < t) = decide (m < n)

theorem cmpI_lt (x y : Int) : decide (cmpI x y < 0) = decide (x < y) := by unfold cmpI; split <;> (try split) <;> simp <;> omega

set_option maxHeartbeats 2000000 in
theorem bsearch_any (xs : List Sp) (t : Int) (n : Nat) (hr : Hid (risesAt xs t n)) (a : Option Addr) (cap : Nat) (w : World) (hs : SlS w a cap xs) (hb : xs.length ≤ 1000000) :
    Calls Try.prog 68 #[.slice a xs.length cap, .int .i64 t, .func (.func 69) #[] #[]] w (Gives w fun v _ => ∃ b : Bool, v = .tuple #[.int .i64 n, .bool b]) := by
  have hmax := len_max hs
  have hn : n ≤ xs.length := hr.out.1
  go_enter Try.func68, Try.ntmps68
  go_wp2
  go_loopw [9, 10] (fun i j wr => ∃ (l r : Nat), l ≤ n ∧ n ≤ r ∧ r ≤ xs.length ∧ i = .int .i64 l ∧ j = .int .i64 r ∧ Ov w wr) (fun i j _ => (intOf j).toNat - (intOf i).toNat)
  case atStart => exact ⟨0, xs.length, Nat.zero_le _, hn, Nat.le_refl _, rfl, rfl, over_self w⟩
  case round =>
    obtain ⟨l, r, hl, hr1, hr2, rfl, rfl, ⟨e, rfl⟩⟩ := hrel
    by_cases hlt : l < r
    · have hm : (l + r) / 2 < xs.length := by omega
      obtain ⟨b, off, rfl, hb, c0, c1⟩ := hs.at_ hm
      have e1 : IntKind.u64.wrap ((l : Int) + (r : Int)) = (l : Int) + (r : Int) := u64_in (by omega) (by omega)
      have hle := cmpI_lt xs[(l + r) / 2].t t
      rw [hr.out.2 _ hm] at hle
      cases hc : decide ((l + r) / 2 < n)
      · rw [hc] at hle
        have hge := of_decide_eq_false hc
        clear hc
        go_wp2_with (go_at_call 69; refine (find1_any _ _ _).mono ?_; rintro _ _ ⟨⟨e2, rfl⟩, rfl⟩)
        go_roundw
        case rel => exact ⟨l, (l + r) / 2, by omega, by omega, by omega, rfl, by go_num, (by (try unfold Ov); repeat (first | with_reducible exact ex_over | with_reducible exact over_self _ | with_reducible refine ex_into ?_ _ | with_reducible refine ex_alloc ?_ _ | with_reducible refine ex_drew ?_ | ((with_reducible refine ex_setCell ?_ ?_ _); rotate_left; (first | omega | (simp; done) | (simp; omega))) | exact ex_over))⟩
        case measure => simp [intOf]; omega
      · rw [hc] at hle
        have hlt2 := of_decide_eq_true hc
        clear hc
        go_wp2_with (go_at_call 69; refine (find1_any _ _ _).mono ?_; rintro _ _ ⟨⟨e2, rfl⟩, rfl⟩)
        go_roundw
        case rel => exact ⟨(l + r) / 2 + 1, r, by omega, by omega, by omega, by go_num, rfl, (by (try unfold Ov); repeat (first | with_reducible exact ex_over | with_reducible exact over_self _ | with_reducible refine ex_into ?_ _ | with_reducible refine ex_alloc ?_ _ | with_reducible refine ex_drew ?_ | ((with_reducible refine ex_setCell ?_ ?_ _); rotate_left; (first | omega | (simp; done) | (simp; omega))) | exact ex_over))⟩
        case measure => simp [intOf]; omega
    · obtain rfl : l = n := by omega
      obtain rfl : r = l := by omega
      by_cases hend : r < xs.length
      · obtain ⟨b, off, rfl, hb, c0, c1⟩ := hs.at_ hend
        have hd : decide (r < xs.length) = true := by simpa using hend
        go_wp2_with (go_at_call 69; refine (find1_any _ _ _).mono ?_; rintro _ _ ⟨⟨e2, rfl⟩, rfl⟩)
        go_ret2
        exact ⟨(by (try unfold Ov); repeat (first | with_reducible exact ex_over | with_reducible exact over_self _ | with_reducible refine ex_into ?_ _ | with_reducible refine ex_alloc ?_ _ | with_reducible refine ex_drew ?_ | ((with_reducible refine ex_setCell ?_ ?_ _); rotate_left; (first | omega | (simp; done) | (simp; omega))) | exact ex_over)), _, rfl, _, rfl⟩
      · have hd : decide (r < xs.length) = false := by simpa using hend
        go_wp2_with fail
        go_ret2
        exact ⟨(by (try unfold Ov); repeat (first | with_reducible exact ex_over | with_reducible exact over_self _ | with_reducible refine ex_into ?_ _ | with_reducible refine ex_alloc ?_ _ | with_reducible refine ex_drew ?_ | ((with_reducible refine ex_setCell ?_ ?_ _); rotate_left; (first | omega | (simp; done) | (simp; omega))) | exact ex_over)), _, rfl, _, rfl⟩

theorem tw_spec (p : Sp → Bool) : ∀ (l : List Sp), (∀ m, m < (l.takeWhile p).length → ∀ h' : m < l.length, p l[m] = true) ∧ (∀ h : (l.takeWhile p).length < l.length, p l[(l.takeWhile p).length] = false)
  | [] => by simp
  | x :: l => by
    obtain ⟨h1, h2⟩ := tw_spec p l
    rw [List.takeWhile_cons]
    cases hp : p x with
    | true =>
      simp only [if_true]
      refine ⟨fun m hm h' => ?_, fun h => ?_⟩
      · rcases m with _ | m
        · exact hp
        · exact h1 m (by simpa using hm) (by simpa using h')
      · exact h2 (by simpa using h)
    | false =>
      simp only [Bool.false_eq_true, if_false]
      exact ⟨fun m hm => absurd hm (Nat.not_lt_zero m), fun _ => hp⟩

theorem sound_mono {xs : List Sp} (hs : soundB xs = true) (i : Nat) : ∀ (d : Nat) (h : i + d < xs.length), (xs[i]'(by omega)).t ≤ (xs[i + d]'h).t
  | 0, _ => Int.le_refl _
  | d + 1, h => by
    have ih := sound_mono hs i d (by omega)
    have h1 := (soundB_iff xs).1 hs (i + d + 1) (by omega)
    have h2 := h1.2 (by omega)
    simp only [apartB, decide_eq_true_eq, Nat.add_sub_cancel] at h2
    have h3 := h1.1
    have e : (xs[i + (d + 1)]'h).t = (xs[i + d + 1]'(by omega)).t := rfl
    rw [e]
    omega

theorem risesAt_find {xs : List Sp} (hs : soundB xs = true) (t : Int) : risesAt xs t (findS xs t) := by
  obtain ⟨h1, h2⟩ := tw_spec (fun x => decide (x.t < t)) xs
  have hle : findS xs t ≤ xs.length := (List.takeWhile_sublist _).length_le
  refine ⟨hle, fun m h => ?_⟩
  by_cases hm : m < findS xs t
  · rw [decide_eq_true hm]; exact h1 m hm h
  · rw [decide_eq_false hm]
    have hn : findS xs t < xs.length := by omega
    have h3 := h2 hn
    obtain ⟨d, rfl⟩ : ∃ d, m = findS xs t + d := ⟨m - findS xs t, by omega⟩
    have h4 := sound_mono hs (findS xs t) d h
    have h5 : ¬ (xs[findS xs t]'hn).t < t := of_decide_eq_false h3
    exact decide_eq_false (by omega)

set_option maxHeartbeats 400000 in
theorem find_any (xs : List Sp) (t : Int) (hso : Hid (soundB xs = true)) (a : Option Addr) (cap : Nat) (w : World) (hs : SlS w a cap xs) (hb : xs.length ≤ 1000000) :
    Calls Try.prog 57 #[.slice a xs.length cap, .int .i64 t] w (Ret w (.int .i64 (findS xs t))) := by
  have hr := hid (risesAt_find hso.out t)
  have hle := hr.out.1
  go_enter Try.func57, Try.ntmps57
  go_wp2_with (go_at_call 68; refine (bsearch_any xs t _ hr _ _ _ hs hb).mono ?_; rintro _ _ ⟨⟨e2, rfl⟩, _, rfl, b, rfl⟩)
  go_ret
  exact ⟨(by (try unfold Ov); repeat (first | with_reducible exact ex_over | with_reducible exact over_self _ | with_reducible refine ex_into ?_ _ | with_reducible refine ex_alloc ?_ _ | with_reducible refine ex_drew ?_ | ((with_reducible refine ex_setCell ?_ ?_ _); rotate_left; (first | omega | (simp; done) | (simp; omega))) | exact ex_over)), rfl⟩

set_option maxHeartbeats 400000 in
theorem cloneS_any (xs : List Sp) (a : Option Addr) (cap : Nat) (w : World) (hs : SlS w a cap xs) (hb : xs.length ≤ 1000000) :
    Calls Try.prog 58 #[.slice a xs.length cap] w (Gives w fun v w' => OwnS w.heap.size w' v xs) := by
  rcases a with _ | ad
  · obtain rfl : cap = 0 := hs.nul rfl
    obtain rfl : xs = [] := by
      cases xs with
      | nil => rfl
      | cons x l => obtain ⟨b, off, h, _⟩ := hs.rec_ 0 x rfl; cases h
    have q := fun (W : World) => run_eql_slice_nil0 (P := Try.prog) (t := 51) span_elem.ht W none 0 0
    go_enter Try.func58, Try.ntmps58
    go_wp2
    go_ret
    exact ⟨over_self w, _, rfl, Own.nil w⟩
  · have q := fun (W : World) => run_eql_slice_nil0 (P := Try.prog) (t := 51) span_elem.ht W (some ad) xs.length cap
    go_enter Try.func58, Try.ntmps58
    go_wp2_with (at_builtin; refine wpList_append span_elem Sp.cs_len Sp.cs_one rfl (.tmp 5) (.tmp 6) rfl (B := w) (w1 := w.alloc _) (base := w.heap.size) (v := .slice (some ⟨w.heap.size, 0, none⟩) 0 0) (ys := []) (xs := xs) (Own.made _) rfl rfl (by (try unfold Ov); repeat (first | with_reducible exact ex_over | with_reducible exact over_self _ | with_reducible refine ex_into ?_ _ | with_reducible refine ex_alloc ?_ _ | with_reducible refine ex_drew ?_ | ((with_reducible refine ex_setCell ?_ ?_ _); rotate_left; (first | omega | (simp; done) | (simp; omega))) | exact ex_over)) (by (try unfold Ov); repeat (first | with_reducible exact ex_over | with_reducible exact over_self _ | with_reducible refine ex_into ?_ _ | with_reducible refine ex_alloc ?_ _ | with_reducible refine ex_drew ?_ | ((with_reducible refine ex_setCell ?_ ?_ _); rotate_left; (first | omega | (simp; done) | (simp; omega))) | exact ex_over)) (by simp) (by simp) (hs.alloc _) (by unfold maxLen; simp; omega) (by simp; omega) ?_; intro v' x' hown' _ _)
    go_ret
    exact ⟨ex_over, _, rfl, hown'⟩
end Go.Proofs.Ytbkekpfancbemaa
