/- Walks: span.Add. -/
import Derived.Test.YtbkekpfancbemaaSpanR
namespace Go.Proofs.Ytbkekpfancbemaa
set_option linter.unusedVariables false
set_option linter.unusedSimpArgs false
open Go.RowKit

abbrev OwnS (base : Nat) (w : World) (v : Value) (ys : List Sp) : Prop := Own base 53 2 Sp.cs w v ys
def SpRes (k : IntKind) (c : Int) (ys : List Sp) (w : World) (en : Ending) (w' : World) : Prop := (∃ e, w' = over w e) ∧ ∃ v, en = .returned (.tuple #[v, .int k c]) ∧ OwnS w.heap.size w' v ys
theorem span_elem : ElemOf Try.prog 51 53 2 16 := elemOf (z := .agg #[.int .i64 0, .int .i64 0]) (by kernel_rfl) (by kernel_rfl) rfl (by decide)
theorem Sp.cs_one (x : Sp) : ∀ u ∈ x.cs, u.oneCell' = true := by intro u hu; simp [Sp.cs] at hu; rcases hu with rfl | rfl <;> rfl
def okN (b : Bool) : Int := if b then 0 else 1
theorem SpRes.bad {k : IntKind} {w w' : World} {l : List Sp} {s : Sp} (h : okSp l s = false) (ho : ∃ e, w' = over w e) : SpRes k (okN (okSp l s)) (addS l s) w (.returned (.tuple #[.slice none 0 0, .int k 1])) w' := by
  refine ⟨ho, .slice none 0 0, by simp [h, okN], ?_⟩
  simp only [addS, h]
  exact Own.nil w'

theorem okSp_no1 {l : List Sp} {s : Sp} (h : soundB l = false) : okSp l s = false := by simp [okSp, h]
theorem okSp_no2 {l : List Sp} {s : Sp} (h : decide (s.t < s.f) = true) : okSp l s = false := by have := of_decide_eq_true h; simp [okSp]; intro _; omega
theorem okSp_yes {l : List Sp} {s : Sp} (h : soundB l = true) (h2 : decide (s.t < s.f) = false) : okSp l s = true := by have := of_decide_eq_false h2; simp [okSp, h]; omega

theorem drop_cons {α : Type} {xs : List α} {k : Nat} (h : k < xs.length) : xs.drop k = xs[k] :: xs.drop (k + 1) := List.drop_eq_getElem_cons h
theorem addGo_1 {x s : Sp} {l out : List Sp} (h : apartB x s = true) : addGo (x :: l) s out = addGo l s (out ++ [x]) := by simp [addGo, h]
theorem addGo_2 {x s : Sp} {l out : List Sp} (h : apartB x s = false) (h2 : apartB s x = true) : addGo (x :: l) s out = addGo l x (out ++ [s]) := by simp [addGo, h, h2]
theorem addGo_3 {x s : Sp} {l out : List Sp} (h : apartB x s = false) (h2 : apartB s x = false) : addGo (x :: l) s out = addGo l (mrg s x) out := by simp [addGo, h, h2]

set_option maxHeartbeats 2000000 in
theorem add_any (xs : List Sp) (hwf : ∀ x ∈ xs, x.wf) (s : Sp) (hsw : s.wf) (a : Option Addr) (cap : Nat) (w : World) (hs : SlS w a cap xs) (hb : xs.length ≤ 1000000) :
    Calls Try.prog 32 #[.slice a xs.length cap, s.v] w (SpRes .u16 (okN (okSp xs s)) (addS xs s) w) := by
  have hmax := len_max hs
  unfold Sp.v
  cases hso : soundB xs
  · have HS := hid (fun W h => hso ▸ sound_any xs hwf a cap W h)
    have Hso := hid hso
    clear hso
    go_enter Try.func32, Try.ntmps32
    go_wp2_with (go_at_call 40; refine (HS.out _ (hs.alloc _)).mono ?_; rintro _ _ ⟨⟨e, rfl⟩, rfl⟩)
    go_ret2
    exact SpRes.bad (okSp_no1 Hso.out) (by (try unfold Ov); repeat (first | with_reducible exact ex_over | with_reducible exact over_self _ | with_reducible refine ex_into ?_ _ | with_reducible refine ex_alloc ?_ _ | with_reducible refine ex_drew ?_ | ((with_reducible refine ex_setCell ?_ ?_ _); rotate_left; (first | omega | (simp; done) | (simp; omega))) | exact ex_over))
  · have HS := hid (fun W h => hso ▸ sound_any xs hwf a cap W h)
    have Hso := hid hso
    clear hso
    cases hft : decide (s.t < s.f)
    · have Hft := hid hft
      go_enter Try.func32, Try.ntmps32
      go_wp2_with (go_at_call 40; refine (HS.out _ (hs.alloc _)).mono ?_; rintro _ _ ⟨⟨e, rfl⟩, rfl⟩)
      go_loopw [6, 21] (fun out i wr => ∃ (k : Nat) (x : Sp) (ys : List Sp), k ≤ xs.length ∧ i = .int .i64 k ∧ Ov (w.alloc (.cells #[.int .i64 x.f, .int .i64 x.t] 53)) wr ∧ OwnS (w.heap.size + 1) wr out ys ∧ x.wf ∧ ys.length ≤ k ∧ Hid (addGo (xs.drop k) x ys = addGo xs s [])) (fun _ i _ => xs.length - (intOf i).toNat)
      case atStart => exact ⟨0, s, [], Nat.zero_le _, rfl, ex_over, Own.nil _, hsw, Nat.le_refl _, hid rfl⟩
      case round =>
        obtain ⟨k, x, ys, hk, rfl, ⟨e, rfl⟩, hown, hxw, hyl, hgo⟩ := hrel
        by_cases hlt : k < xs.length
        · obtain ⟨b, off, rfl, hb, c0, c1⟩ := hs.at_ hlt
          cases h1 : apartB xs[k] x
          · have HA := hid (fun W => h1 ▸ apart_any _ _ (hwf _ (List.getElem_mem hlt)) hxw W)
            have H1 := hid h1
            clear h1
            cases h2 : apartB x xs[k]
            · have HB := hid (fun W => h2 ▸ apart_any _ _ hxw (hwf _ (List.getElem_mem hlt)) W)
              have H2 := hid h2
              clear h2
              go_wp2_with (first | (go_at_call 55; (with_reducible refine (HA.out _).mono ?_); rintro _ _ ⟨⟨e2, rfl⟩, rfl⟩) | (go_at_call 55; (with_reducible refine (HB.out _).mono ?_); rintro _ _ ⟨⟨e3, rfl⟩, rfl⟩))
              go_roundw
              case rel => exact ⟨k + 1, mrg x xs[k], ys, by omega, by go_num, (by repeat (first | exact ex_over | exact over_self _ | refine ex_into ?_ _ | refine ex_alloc ?_ _ | refine ex_drew ?_)), (by repeat (first | with_reducible exact Own.swap hown (by omega) _ | with_reducible refine Own.over ?_ _ | with_reducible refine Own.alloc ?_ _ | with_reducible refine Own.drew ?_ | exact Own.swap hown (by omega) _)), mrg_wf hxw (hwf _ (List.getElem_mem hlt)), by omega, hid (by rw [← hgo.out, drop_cons hlt, addGo_3 H1.out H2.out])⟩
              case measure => simp [intOf]; omega
            · have HB := hid (fun W => h2 ▸ apart_any _ _ hxw (hwf _ (List.getElem_mem hlt)) W)
              have H2 := hid h2
              clear h2
              go_wp2_with (first | (go_at_call 55; (with_reducible refine (HA.out _).mono ?_); rintro _ _ ⟨⟨e2, rfl⟩, rfl⟩) | (go_at_call 55; (with_reducible refine (HB.out _).mono ?_); rintro _ _ ⟨⟨e3, rfl⟩, rfl⟩) | (at_builtin; refine wpList_append span_elem Sp.cs_len Sp.cs_one rfl (.tmp 48) (.tmp 50) rfl (B := w.alloc (.cells #[.int .i64 x.f, .int .i64 x.t] 53)) (xs := [x]) hown rfl rfl (by (try unfold Ov); repeat (first | with_reducible exact ex_over | with_reducible exact over_self _ | with_reducible refine ex_into ?_ _ | with_reducible refine ex_alloc ?_ _ | with_reducible refine ex_drew ?_ | ((with_reducible refine ex_setCell ?_ ?_ _); rotate_left; (first | omega | (simp; done) | (simp; omega))) | exact ex_over)) (by (try unfold Ov); repeat (first | with_reducible exact ex_over | with_reducible exact over_self _ | with_reducible refine ex_into ?_ _ | with_reducible refine ex_alloc ?_ _ | with_reducible refine ex_drew ?_ | ((with_reducible refine ex_setCell ?_ ?_ _); rotate_left; (first | omega | (simp; done) | (simp; omega))) | exact ex_over)) (by simp) (by simp; try omega) (by first | exact Sl.one_new (y := x) (by simp; try omega) | exact Sl.drew (Sl.one_new (y := x) (by simp; try omega))) (by simp only [List.length_append, List.length_singleton]; unfold maxLen; omega) (by simp only [List.length_append, List.length_singleton]; omega) ?_; intro v' x' hown' hk' hf'; have hk0 := hk' (w.heap.size + 1 + e.heap.size) 0 (by simp) (by simp; omega); have hk1 := hk' (w.heap.size + 1 + e.heap.size) 1 (by simp) (by simp; omega); clear hk' hf'; simp [go_sem] at hk0 hk1))
              go_roundw
              case rel => exact ⟨k + 1, xs[k], ys ++ [x], by omega, by go_num, (by (try unfold Ov); repeat (first | with_reducible exact ex_over | with_reducible exact over_self _ | with_reducible refine ex_into ?_ _ | with_reducible refine ex_alloc ?_ _ | with_reducible refine ex_drew ?_ | ((with_reducible refine ex_setCell ?_ ?_ _); rotate_left; (first | omega | (simp; done) | (simp; omega))) | exact ex_over)), (by repeat (first | with_reducible exact Own.swap hown' (by omega) _ | with_reducible refine Own.over ?_ _ | with_reducible refine Own.alloc ?_ _ | with_reducible refine Own.drew ?_ | exact Own.swap hown' (by omega) _)), hwf _ (List.getElem_mem hlt), by simp; omega, hid (by rw [← hgo.out, drop_cons hlt, addGo_2 H1.out H2.out])⟩
              case measure => simp [intOf]; omega
          · have HA := hid (fun W => h1 ▸ apart_any _ _ (hwf _ (List.getElem_mem hlt)) hxw W)
            have H1 := hid h1
            clear h1
            go_wp2_with (first | (go_at_call 55; refine (HA.out _).mono ?_; rintro _ _ ⟨⟨e2, rfl⟩, rfl⟩) | (at_builtin; refine wpList_append span_elem Sp.cs_len Sp.cs_one rfl (.tmp 40) (.tmp 42) rfl (B := w.alloc (.cells #[.int .i64 x.f, .int .i64 x.t] 53)) (xs := [xs[k]]) hown rfl rfl (by (try unfold Ov); repeat (first | with_reducible exact ex_over | with_reducible exact over_self _ | with_reducible refine ex_into ?_ _ | with_reducible refine ex_alloc ?_ _ | with_reducible refine ex_drew ?_ | ((with_reducible refine ex_setCell ?_ ?_ _); rotate_left; (first | omega | (simp; done) | (simp; omega))) | exact ex_over)) (by (try unfold Ov); repeat (first | with_reducible exact ex_over | with_reducible exact over_self _ | with_reducible refine ex_into ?_ _ | with_reducible refine ex_alloc ?_ _ | with_reducible refine ex_drew ?_ | ((with_reducible refine ex_setCell ?_ ?_ _); rotate_left; (first | omega | (simp; done) | (simp; omega))) | exact ex_over)) (by simp) (by simp; try omega) (by first | exact Sl.one_new (y := xs[k]) (by simp; try omega) | exact Sl.drew (Sl.one_new (y := xs[k]) (by simp; try omega))) (by simp only [List.length_append, List.length_singleton]; unfold maxLen; omega) (by simp only [List.length_append, List.length_singleton]; omega) ?_; intro v' x' hown' _ _))
            go_roundw
            case rel => exact ⟨k + 1, x, ys ++ [xs[k]], by omega, by go_num, (by (try unfold Ov); repeat (first | with_reducible exact ex_over | with_reducible exact over_self _ | with_reducible refine ex_into ?_ _ | with_reducible refine ex_alloc ?_ _ | with_reducible refine ex_drew ?_ | ((with_reducible refine ex_setCell ?_ ?_ _); rotate_left; (first | omega | (simp; done) | (simp; omega))) | exact ex_over)), hown', hxw, by simp; omega, hid (by rw [← hgo.out, drop_cons hlt, addGo_1 H1.out])⟩
            case measure => simp [intOf]; omega
        · go_wp2_with (at_builtin; refine wpList_append span_elem Sp.cs_len Sp.cs_one rfl (.tmp 54) (.tmp 56) rfl (B := w.alloc (.cells #[.int .i64 x.f, .int .i64 x.t] 53)) (xs := [x]) hown rfl rfl (by (try unfold Ov); repeat (first | with_reducible exact ex_over | with_reducible exact over_self _ | with_reducible refine ex_into ?_ _ | with_reducible refine ex_alloc ?_ _ | with_reducible refine ex_drew ?_ | ((with_reducible refine ex_setCell ?_ ?_ _); rotate_left; (first | omega | (simp; done) | (simp; omega))) | exact ex_over)) (by (try unfold Ov); repeat (first | with_reducible exact ex_over | with_reducible exact over_self _ | with_reducible refine ex_into ?_ _ | with_reducible refine ex_alloc ?_ _ | with_reducible refine ex_drew ?_ | ((with_reducible refine ex_setCell ?_ ?_ _); rotate_left; (first | omega | (simp; done) | (simp; omega))) | exact ex_over)) (by simp) (by simp; try omega) (by first | exact Sl.one_new (y := x) (by simp; try omega) | exact Sl.drew (Sl.one_new (y := x) (by simp; try omega))) (by simp only [List.length_append, List.length_singleton]; unfold maxLen; omega) (by simp only [List.length_append, List.length_singleton]; omega) ?_; intro v' x' hown' _ _)
          go_ret2
          have hk' : k = xs.length := by omega
          refine ⟨(by (try unfold Ov); repeat (first | with_reducible exact ex_over | with_reducible exact over_self _ | with_reducible refine ex_into ?_ _ | with_reducible refine ex_alloc ?_ _ | with_reducible refine ex_drew ?_ | ((with_reducible refine ex_setCell ?_ ?_ _); rotate_left; (first | omega | (simp; done) | (simp; omega))) | exact ex_over)), v', by rw [okSp_yes Hso.out Hft.out]; rfl, ?_⟩
          have : addS xs s = ys ++ [x] := by rw [addS, okSp_yes Hso.out Hft.out, if_pos rfl, ← hgo.out, hk', List.drop_length]; rfl
          rw [this]
          exact Own.mono hown' (by omega)
    · have Hft := hid hft
      go_enter Try.func32, Try.ntmps32
      go_wp2_with (go_at_call 40; refine (HS.out _ (hs.alloc _)).mono ?_; rintro _ _ ⟨⟨e, rfl⟩, rfl⟩)
      go_ret2
      exact SpRes.bad (okSp_no2 Hft.out) (by (try unfold Ov); repeat (first | with_reducible exact ex_over | with_reducible exact over_self _ | with_reducible refine ex_into ?_ _ | with_reducible refine ex_alloc ?_ _ | with_reducible refine ex_drew ?_ | ((with_reducible refine ex_setCell ?_ ?_ _); rotate_left; (first | omega | (simp; done) | (simp; omega))) | exact ex_over))

end Go.Proofs.Ytbkekpfancbemaa
