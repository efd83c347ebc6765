/- Walks: the reference's Drop and Meet. -/
import Derived.Test.YtbkekpfancbemaaSpanK
import Derived.Test.YtbkekpfancbemaaSpanN
namespace Go.Proofs.Ytbkekpfancbemaa
set_option linter.unusedVariables false
set_option linter.unusedSimpArgs false
open Go.RowKit

def rdropOne (s x : Sp) : List Sp :=
  if decide (x.t < s.f) || decide (s.t < x.f) then [x] else (if x.f < s.f then [⟨x.f, s.f - 1⟩] else []) ++ (if s.t < x.t then [⟨s.t + 1, x.t⟩] else [])
def rdropGo (s : Sp) (l : List Sp) : List Sp := l.flatMap (rdropOne s)
def rdropS (l : List Sp) (s : Sp) : List Sp := if okSp l s then rdropGo s l else []
theorem rdropOne_0 {s x : Sp} (h : (decide (x.t < s.f) || decide (s.t < x.f)) = true) : rdropOne s x = [x] := by rw [rdropOne, h, if_pos rfl]
theorem rdropOne_2 {s x : Sp} (h0 : decide (x.t < s.f) = false) (h : decide (s.t < x.f) = false) (h2 : decide (x.f < s.f) = false) (h3 : decide (s.t < x.t) = false) : rdropOne s x = [] := by
  have b := of_decide_eq_false h2; have c := of_decide_eq_false h3
  rw [rdropOne, h0, h]; simp only [if_neg b, if_neg c, List.append_nil]; rfl
theorem rdropOne_3 {s x : Sp} (h0 : decide (x.t < s.f) = false) (h : decide (s.t < x.f) = false) (h2 : decide (x.f < s.f) = false) (h3 : decide (s.t < x.t) = true) : rdropOne s x = [⟨s.t + 1, x.t⟩] := by
  have b := of_decide_eq_false h2; have c := of_decide_eq_true h3
  rw [rdropOne, h0, h]; simp only [if_neg b, if_pos c, List.nil_append]; rfl
theorem rdropOne_4 {s x : Sp} (h0 : decide (x.t < s.f) = false) (h : decide (s.t < x.f) = false) (h2 : decide (x.f < s.f) = true) (h3 : decide (s.t < x.t) = false) : rdropOne s x = [⟨x.f, s.f - 1⟩] := by
  have b := of_decide_eq_true h2; have c := of_decide_eq_false h3
  rw [rdropOne, h0, h]; simp only [if_pos b, if_neg c, List.append_nil]; rfl
theorem rdropOne_5 {s x : Sp} (h0 : decide (x.t < s.f) = false) (h : decide (s.t < x.f) = false) (h2 : decide (x.f < s.f) = true) (h3 : decide (s.t < x.t) = true) : rdropOne s x = [⟨x.f, s.f - 1⟩, ⟨s.t + 1, x.t⟩] := by
  have b := of_decide_eq_true h2; have c := of_decide_eq_true h3
  rw [rdropOne, h0, h]; simp only [if_pos b, if_pos c]; rfl
theorem rdropGo_step {s : Sp} {zs ys : List Sp} {k : Nat} (hk : k < zs.length) (h : ys = rdropGo s (zs.take k)) {r : List Sp} (hr : rdropOne s zs[k] = r) : ys ++ r = rdropGo s (zs.take (k + 1)) := by
  rw [take_snoc' hk, rdropGo, List.flatMap_append, ← rdropGo, ← h, List.flatMap_singleton, hr]
theorem rdropGo_len {s : Sp} (l : List Sp) : (rdropGo s l).length ≤ 2 * l.length := by
  induction l with
  | nil => simp [rdropGo]
  | cons x l ih =>
    simp only [rdropGo, List.flatMap_cons, List.length_append, List.length_cons] at *
    have : (rdropOne s x).length ≤ 2 := by unfold rdropOne; split <;> (try split) <;> (try split) <;> simp
    omega

set_option maxRecDepth 100000 in
set_option maxHeartbeats 4000000 in
theorem rdrop_any (zs : List Sp) (hzw : ∀ x ∈ zs, x.wf) (s : Sp) (hsw : s.wf) (a : Option Addr) (cap : Nat) (w : World) (hs3 : SlS w a cap zs) (hb : zs.length ≤ 100000) :
    Calls Try.prog 35 #[.slice a zs.length cap, s.v] w (SpRes .i64 (okN (okSp zs s)) (rdropS zs s) w) := by
  have hmax := len_max hs3
  unfold Sp.v
  cases hso : soundB zs
  · have HS := hid (fun W h => hso ▸ rsound_any zs hzw a cap W h)
    have Hso := hid hso
    clear hso
    go_enter Try.func35, Try.ntmps35
    go_wp2_with (go_at_call 41; refine (HS.out _ (hs3.alloc _)).mono ?_; rintro _ _ ⟨⟨e, rfl⟩, rfl⟩)
    go_ret2
    refine ⟨(by (try unfold Ov); repeat (first | with_reducible exact ex_over | with_reducible exact over_self _ | with_reducible refine ex_into ?_ _ | with_reducible refine ex_alloc ?_ _ | with_reducible refine ex_drew ?_ | ((with_reducible refine ex_setCell ?_ ?_ _); rotate_left; (first | omega | (simp; done) | (simp; omega))) | exact ex_over)), .slice none 0 0, by rw [okSp_no1 Hso.out]; rfl, ?_⟩
    rw [rdropS, okSp_no1 Hso.out]
    exact Own.nil _
  · have HS := hid (fun W h => hso ▸ rsound_any zs hzw a cap W h)
    have Hso := hid hso
    clear hso
    cases hft : decide (s.t < s.f)
    · have Hft := hid hft
      go_enter Try.func35, Try.ntmps35
      go_wp2_with (go_at_call 41; refine (HS.out _ (hs3.alloc _)).mono ?_; rintro _ _ ⟨⟨e, rfl⟩, rfl⟩)
      go_loopw [7, 8] (fun out i wr => ∃ (k : Nat) (ys : List Sp), k ≤ zs.length ∧ i = .int .i64 k ∧ Ov (w.alloc (.cells #[.int .i64 s.f, .int .i64 s.t] 53)) wr ∧ OwnS (w.heap.size + 1) wr out ys ∧ Hid (ys = rdropGo s (zs.take k))) (fun _ i _ => zs.length - (intOf i).toNat)
      case atStart => exact ⟨0, [], Nat.zero_le _, rfl, (by (try unfold Ov); repeat (first | with_reducible exact ex_over | with_reducible exact over_self _ | with_reducible refine ex_into ?_ _ | with_reducible refine ex_alloc ?_ _ | with_reducible refine ex_drew ?_ | ((with_reducible refine ex_setCell ?_ ?_ _); rotate_left; (first | omega | (simp; done) | (simp; omega))) | exact ex_over)), Own.nil _, hid (by simp [rdropGo])⟩
      case round =>
        obtain ⟨k, ys, hk, rfl, ⟨e, rfl⟩, hown, hys⟩ := hrel
        have hyl : ys.length ≤ 300000 := by
          rw [hys.out]
          have := rdropGo_len (s := s) (zs.take k)
          have := List.length_take_le k zs
          omega
        by_cases hlt : k < zs.length
        · obtain ⟨b, off, rfl, hb, c0, c1⟩ := SlS.at_ hs3 hlt
          have hzk := hid (hzw _ (List.getElem_mem hlt))
          clear hzw
          cases h0 : decide (zs[k].t < s.f)
          rotate_left
          · have H0 := hid (rdropOne_0 (s := s) (x := zs[k]) (by rw [h0]; rfl))
            go_wp2_with (at_builtin; refine wpList_append span_elem Sp.cs_len Sp.cs_one rfl (.tmp 43) (.tmp 45) rfl (B := w.alloc (.cells #[.int .i64 s.f, .int .i64 s.t] 53)) (xs := [zs[k]]) hown rfl rfl (by (try unfold Ov); repeat (first | with_reducible exact ex_over | with_reducible exact over_self _ | with_reducible refine ex_into ?_ _ | with_reducible refine ex_alloc ?_ _ | with_reducible refine ex_drew ?_ | ((with_reducible refine ex_setCell ?_ ?_ _); rotate_left; (first | omega | (simp; done) | (simp; omega))) | exact ex_over)) (by (try unfold Ov); repeat (first | with_reducible exact ex_over | with_reducible exact over_self _ | with_reducible refine ex_into ?_ _ | with_reducible refine ex_alloc ?_ _ | with_reducible refine ex_drew ?_ | ((with_reducible refine ex_setCell ?_ ?_ _); rotate_left; (first | omega | (simp; done) | (simp; omega))) | exact ex_over)) (by simp) (by simp; try omega) (by first | exact Sl.one_new (y := zs[k]) (by simp; try omega) | exact Sl.drew (Sl.one_new (y := zs[k]) (by simp; try omega))) (by simp only [List.length_append, List.length_singleton]; unfold maxLen; omega) (by simp only [List.length_append, List.length_singleton]; omega) ?_; intro v' x' hown' _ _)
            go_roundw
            case rel => exact ⟨k + 1, _, by omega, by go_num, (by (try unfold Ov); repeat (first | with_reducible exact ex_over | with_reducible exact over_self _ | with_reducible refine ex_into ?_ _ | with_reducible refine ex_alloc ?_ _ | with_reducible refine ex_drew ?_ | ((with_reducible refine ex_setCell ?_ ?_ _); rotate_left; (first | omega | (simp; done) | (simp; omega))) | exact ex_over)), hown', hid (rdropGo_step hlt hys.out H0.out)⟩
            case measure => simp [intOf]; omega
          have H0 := hid h0
          cases h1 : decide (s.t < zs[k].f)
          · have H1 := hid h1
            cases h2 : decide (zs[k].f < s.f)
            · have H2 := hid h2
              cases h3 : decide (s.t < zs[k].t)
              · have H3 := hid h3
                go_wp2_with fail
                go_roundw
                case rel => exact ⟨k + 1, ys, by omega, by go_num, (by (try unfold Ov); repeat (first | with_reducible exact ex_over | with_reducible exact over_self _ | with_reducible refine ex_into ?_ _ | with_reducible refine ex_alloc ?_ _ | with_reducible refine ex_drew ?_ | ((with_reducible refine ex_setCell ?_ ?_ _); rotate_left; (first | omega | (simp; done) | (simp; omega))) | exact ex_over)), (by repeat (first | with_reducible exact hown | with_reducible refine Own.over ?_ _ | with_reducible refine Own.alloc ?_ _ | with_reducible refine Own.drew ?_ | exact hown)), hid (by have := rdropGo_step hlt hys.out (rdropOne_2 H0.out H1.out H2.out H3.out); simpa using this)⟩
                case measure => simp [intOf]; omega
              · have H3 := hid h3
                have q4 := dropPost hsw hzk.out h3
                go_wp2_with (at_builtin; refine wpList_append span_elem Sp.cs_len Sp.cs_one rfl (.tmp 66) (.tmp 73) rfl (B := w.alloc (.cells #[.int .i64 s.f, .int .i64 s.t] 53)) (xs := [(⟨s.t + 1, zs[k].t⟩ : Sp)]) hown rfl rfl (by (try unfold Ov); repeat (first | with_reducible exact ex_over | with_reducible exact over_self _ | with_reducible refine ex_into ?_ _ | with_reducible refine ex_alloc ?_ _ | with_reducible refine ex_drew ?_ | ((with_reducible refine ex_setCell ?_ ?_ _); rotate_left; (first | omega | (simp; done) | (simp; omega))) | exact ex_over)) (by (try unfold Ov); repeat (first | with_reducible exact ex_over | with_reducible exact over_self _ | with_reducible refine ex_into ?_ _ | with_reducible refine ex_alloc ?_ _ | with_reducible refine ex_drew ?_ | ((with_reducible refine ex_setCell ?_ ?_ _); rotate_left; (first | omega | (simp; done) | (simp; omega))) | exact ex_over)) (by simp) (by simp; try omega) (by first | exact Sl.one_new (y := (⟨s.t + 1, zs[k].t⟩ : Sp)) (by simp; try omega) | exact Sl.drew (Sl.one_new (y := (⟨s.t + 1, zs[k].t⟩ : Sp)) (by simp; try omega))) (by simp only [List.length_append, List.length_singleton]; unfold maxLen; omega) (by simp only [List.length_append, List.length_singleton]; omega) ?_; intro v' x' hown' _ _)
                go_roundw
                case rel => exact ⟨k + 1, _, by omega, by go_num, (by (try unfold Ov); repeat (first | with_reducible exact ex_over | with_reducible exact over_self _ | with_reducible refine ex_into ?_ _ | with_reducible refine ex_alloc ?_ _ | with_reducible refine ex_drew ?_ | ((with_reducible refine ex_setCell ?_ ?_ _); rotate_left; (first | omega | (simp; done) | (simp; omega))) | exact ex_over)), hown', hid (rdropGo_step hlt hys.out (rdropOne_3 H0.out H1.out H2.out H3.out))⟩
                case measure => simp [intOf]; omega
            · have H2 := hid h2
              have q5 := dropPre hsw hzk.out h2
              cases h3 : decide (s.t < zs[k].t)
              · have H3 := hid h3
                go_wp2_with (at_builtin; refine wpList_append span_elem Sp.cs_len Sp.cs_one rfl (.tmp 52) (.tmp 59) rfl (B := w.alloc (.cells #[.int .i64 s.f, .int .i64 s.t] 53)) (xs := [(⟨zs[k].f, s.f - 1⟩ : Sp)]) hown rfl rfl (by (try unfold Ov); repeat (first | with_reducible exact ex_over | with_reducible exact over_self _ | with_reducible refine ex_into ?_ _ | with_reducible refine ex_alloc ?_ _ | with_reducible refine ex_drew ?_ | ((with_reducible refine ex_setCell ?_ ?_ _); rotate_left; (first | omega | (simp; done) | (simp; omega))) | exact ex_over)) (by (try unfold Ov); repeat (first | with_reducible exact ex_over | with_reducible exact over_self _ | with_reducible refine ex_into ?_ _ | with_reducible refine ex_alloc ?_ _ | with_reducible refine ex_drew ?_ | ((with_reducible refine ex_setCell ?_ ?_ _); rotate_left; (first | omega | (simp; done) | (simp; omega))) | exact ex_over)) (by simp) (by simp; try omega) (by first | exact Sl.one_new (y := (⟨zs[k].f, s.f - 1⟩ : Sp)) (by simp; try omega) | exact Sl.drew (Sl.one_new (y := (⟨zs[k].f, s.f - 1⟩ : Sp)) (by simp; try omega))) (by simp only [List.length_append, List.length_singleton]; unfold maxLen; omega) (by simp only [List.length_append, List.length_singleton]; omega) ?_; intro v' x' hown' hk' hf'; have hk0 := hk' (w.heap.size + 1 + e.heap.size) 0 (by simp) (by simp; omega); have hk1 := hk' (w.heap.size + 1 + e.heap.size) 1 (by simp) (by simp; omega); clear hk' hf'; simp [go_sem] at hk0 hk1)
                go_roundw
                case rel => exact ⟨k + 1, _, by omega, by go_num, (by (try unfold Ov); repeat (first | with_reducible exact ex_over | with_reducible exact over_self _ | with_reducible refine ex_into ?_ _ | with_reducible refine ex_alloc ?_ _ | with_reducible refine ex_drew ?_ | ((with_reducible refine ex_setCell ?_ ?_ _); rotate_left; (first | omega | (simp; done) | (simp; omega))) | exact ex_over)), hown', hid (rdropGo_step hlt hys.out (rdropOne_4 H0.out H1.out H2.out H3.out))⟩
                case measure => simp [intOf]; omega
              · have H3 := hid h3
                have q4 := dropPost hsw hzk.out h3
                go_wp2_with (first | (at_builtin; refine wpList_append span_elem Sp.cs_len Sp.cs_one rfl (.tmp 52) (.tmp 59) rfl (B := w.alloc (.cells #[.int .i64 s.f, .int .i64 s.t] 53)) (xs := [(⟨zs[k].f, s.f - 1⟩ : Sp)]) hown rfl rfl (by (try unfold Ov); repeat (first | with_reducible exact ex_over | with_reducible exact over_self _ | with_reducible refine ex_into ?_ _ | with_reducible refine ex_alloc ?_ _ | with_reducible refine ex_drew ?_ | ((with_reducible refine ex_setCell ?_ ?_ _); rotate_left; (first | omega | (simp; done) | (simp; omega))) | exact ex_over)) (by (try unfold Ov); repeat (first | with_reducible exact ex_over | with_reducible exact over_self _ | with_reducible refine ex_into ?_ _ | with_reducible refine ex_alloc ?_ _ | with_reducible refine ex_drew ?_ | ((with_reducible refine ex_setCell ?_ ?_ _); rotate_left; (first | omega | (simp; done) | (simp; omega))) | exact ex_over)) (by simp) (by simp; try omega) (by first | exact Sl.one_new (y := (⟨zs[k].f, s.f - 1⟩ : Sp)) (by simp; try omega) | exact Sl.drew (Sl.one_new (y := (⟨zs[k].f, s.f - 1⟩ : Sp)) (by simp; try omega))) (by simp only [List.length_append, List.length_singleton]; unfold maxLen; omega) (by simp only [List.length_append, List.length_singleton]; omega) ?_; intro v' x' hown' hk' hf'; have hk0 := hk' (w.heap.size + 1 + e.heap.size) 0 (by simp) (by simp; omega); have hk1 := hk' (w.heap.size + 1 + e.heap.size) 1 (by simp) (by simp; omega); clear hk' hf'; simp [go_sem] at hk0 hk1) | (at_builtin; refine wpList_append span_elem Sp.cs_len Sp.cs_one rfl (.tmp 66) (.tmp 73) rfl (B := w.alloc (.cells #[.int .i64 s.f, .int .i64 s.t] 53)) (xs := [(⟨s.t + 1, zs[k].t⟩ : Sp)]) hown' rfl rfl (by (try unfold Ov); repeat (first | with_reducible exact ex_over | with_reducible exact over_self _ | with_reducible refine ex_into ?_ _ | with_reducible refine ex_alloc ?_ _ | with_reducible refine ex_drew ?_ | ((with_reducible refine ex_setCell ?_ ?_ _); rotate_left; (first | omega | (simp; done) | (simp; omega))) | exact ex_over)) (by (try unfold Ov); repeat (first | with_reducible exact ex_over | with_reducible exact over_self _ | with_reducible refine ex_into ?_ _ | with_reducible refine ex_alloc ?_ _ | with_reducible refine ex_drew ?_ | ((with_reducible refine ex_setCell ?_ ?_ _); rotate_left; (first | omega | (simp; done) | (simp; omega))) | exact ex_over)) (by simp) (by simp; try omega) (by first | exact Sl.one_new (y := (⟨s.t + 1, zs[k].t⟩ : Sp)) (by simp; try omega) | exact Sl.drew (Sl.one_new (y := (⟨s.t + 1, zs[k].t⟩ : Sp)) (by simp; try omega))) (by simp only [List.length_append, List.length_singleton]; unfold maxLen; omega) (by simp only [List.length_append, List.length_singleton]; omega) ?_; intro v2 x2 hown2 _ _))
                go_roundw
                case rel => exact ⟨k + 1, _, by omega, by go_num, (by (try unfold Ov); repeat (first | with_reducible exact ex_over | with_reducible exact over_self _ | with_reducible refine ex_into ?_ _ | with_reducible refine ex_alloc ?_ _ | with_reducible refine ex_drew ?_ | ((with_reducible refine ex_setCell ?_ ?_ _); rotate_left; (first | omega | (simp; done) | (simp; omega))) | exact ex_over)), hown2, hid (by have := rdropGo_step hlt hys.out (rdropOne_5 H0.out H1.out H2.out H3.out); simpa using this)⟩
                case measure => simp [intOf]; omega
          · have H1 := hid (rdropOne_0 (s := s) (x := zs[k]) (by rw [h1]; simp))
            go_wp2_with (at_builtin; refine wpList_append span_elem Sp.cs_len Sp.cs_one rfl (.tmp 43) (.tmp 45) rfl (B := w.alloc (.cells #[.int .i64 s.f, .int .i64 s.t] 53)) (xs := [zs[k]]) hown rfl rfl (by (try unfold Ov); repeat (first | with_reducible exact ex_over | with_reducible exact over_self _ | with_reducible refine ex_into ?_ _ | with_reducible refine ex_alloc ?_ _ | with_reducible refine ex_drew ?_ | ((with_reducible refine ex_setCell ?_ ?_ _); rotate_left; (first | omega | (simp; done) | (simp; omega))) | exact ex_over)) (by (try unfold Ov); repeat (first | with_reducible exact ex_over | with_reducible exact over_self _ | with_reducible refine ex_into ?_ _ | with_reducible refine ex_alloc ?_ _ | with_reducible refine ex_drew ?_ | ((with_reducible refine ex_setCell ?_ ?_ _); rotate_left; (first | omega | (simp; done) | (simp; omega))) | exact ex_over)) (by simp) (by simp; try omega) (by first | exact Sl.one_new (y := zs[k]) (by simp; try omega) | exact Sl.drew (Sl.one_new (y := zs[k]) (by simp; try omega))) (by simp only [List.length_append, List.length_singleton]; unfold maxLen; omega) (by simp only [List.length_append, List.length_singleton]; omega) ?_; intro v' x' hown' _ _)
            go_roundw
            case rel => exact ⟨k + 1, _, by omega, by go_num, (by (try unfold Ov); repeat (first | with_reducible exact ex_over | with_reducible exact over_self _ | with_reducible refine ex_into ?_ _ | with_reducible refine ex_alloc ?_ _ | with_reducible refine ex_drew ?_ | ((with_reducible refine ex_setCell ?_ ?_ _); rotate_left; (first | omega | (simp; done) | (simp; omega))) | exact ex_over)), hown', hid (rdropGo_step hlt hys.out H1.out)⟩
            case measure => simp [intOf]; omega
        · go_wp2_with fail
          go_ret2
          have hkk : k = zs.length := by omega
          refine ⟨(by (try unfold Ov); repeat (first | with_reducible exact ex_over | with_reducible exact over_self _ | with_reducible refine ex_into ?_ _ | with_reducible refine ex_alloc ?_ _ | with_reducible refine ex_drew ?_ | ((with_reducible refine ex_setCell ?_ ?_ _); rotate_left; (first | omega | (simp; done) | (simp; omega))) | exact ex_over)), _, by rw [okSp_yes Hso.out Hft.out]; rfl, ?_⟩
          have : rdropS zs s = ys := by rw [rdropS, okSp_yes Hso.out Hft.out, if_pos rfl, hys.out, hkk, List.take_length]
          rw [this]
          exact Own.mono hown (by omega)
    · have Hft := hid hft
      go_enter Try.func35, Try.ntmps35
      go_wp2_with (go_at_call 41; refine (HS.out _ (hs3.alloc _)).mono ?_; rintro _ _ ⟨⟨e, rfl⟩, rfl⟩)
      go_ret2
      refine ⟨(by (try unfold Ov); repeat (first | with_reducible exact ex_over | with_reducible exact over_self _ | with_reducible refine ex_into ?_ _ | with_reducible refine ex_alloc ?_ _ | with_reducible refine ex_drew ?_ | ((with_reducible refine ex_setCell ?_ ?_ _); rotate_left; (first | omega | (simp; done) | (simp; omega))) | exact ex_over)), .slice none 0 0, by rw [okSp_no2 Hft.out]; rfl, ?_⟩
      rw [rdropS, okSp_no2 Hft.out]
      exact Own.nil _
end Go.Proofs.Ytbkekpfancbemaa
