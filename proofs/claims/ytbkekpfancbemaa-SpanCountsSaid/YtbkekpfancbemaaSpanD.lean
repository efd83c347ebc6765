/- Walks: span.Drop. -/
import Derived.Test.YtbkekpfancbemaaSpanF
namespace Go.Proofs.Ytbkekpfancbemaa
set_option linter.unusedVariables false
set_option linter.unusedSimpArgs false
open Go.RowKit

theorem dropGo_snoc {s x : Sp} {l : List Sp} : dropGo s (l ++ [x]) = dropGo s l ++ dropOne s x := by simp [dropGo]
theorem dropOne_1 {s x : Sp} (h : decide (s.t < x.f) = true) : dropOne s x = [x] := by have := of_decide_eq_true h; simp [dropOne, this]
theorem dropOne_2 {s x : Sp} (h : decide (s.t < x.f) = false) (h2 : decide (x.f < s.f) = false) (h3 : decide (s.t < x.t) = false) : dropOne s x = [] := by
  have a := of_decide_eq_false h; have b := of_decide_eq_false h2; have c := of_decide_eq_false h3
  simp only [dropOne, if_neg a, if_neg b, if_neg c, List.append_nil]
theorem dropOne_3 {s x : Sp} (h : decide (s.t < x.f) = false) (h2 : decide (x.f < s.f) = false) (h3 : decide (s.t < x.t) = true) : dropOne s x = [⟨s.t + 1, x.t⟩] := by
  have a := of_decide_eq_false h; have b := of_decide_eq_false h2; have c := of_decide_eq_true h3
  simp only [dropOne, if_neg a, if_neg b, if_pos c, List.nil_append]
theorem dropOne_4 {s x : Sp} (h : decide (s.t < x.f) = false) (h2 : decide (x.f < s.f) = true) (h3 : decide (s.t < x.t) = false) : dropOne s x = [⟨x.f, s.f - 1⟩] := by
  have a := of_decide_eq_false h; have b := of_decide_eq_true h2; have c := of_decide_eq_false h3
  simp only [dropOne, if_neg a, if_pos b, if_neg c, List.append_nil]
theorem dropOne_5 {s x : Sp} (h : decide (s.t < x.f) = false) (h2 : decide (x.f < s.f) = true) (h3 : decide (s.t < x.t) = true) : dropOne s x = [⟨x.f, s.f - 1⟩, ⟨s.t + 1, x.t⟩] := by
  have a := of_decide_eq_false h; have b := of_decide_eq_true h2; have c := of_decide_eq_true h3
  simp only [dropOne, if_neg a, if_pos b, if_pos c, List.cons_append, List.nil_append]
theorem dropGo_step {s : Sp} {zs ys f : List Sp} {k : Nat} (hk : k < zs.length) (h : ys = f ++ dropGo s (zs.take k)) {r : List Sp} (hr : dropOne s zs[k] = r) : ys ++ r = f ++ dropGo s (zs.take (k + 1)) := by
  rw [take_snoc' hk, dropGo_snoc, hr, h, List.append_assoc]
theorem dropGo_len {s : Sp} (l : List Sp) : (dropGo s l).length ≤ 2 * l.length := by
  induction l with
  | nil => simp [dropGo]
  | cons x l ih =>
    simp only [dropGo, List.flatMap_cons, List.length_append, List.length_cons] at *
    have : (dropOne s x).length ≤ 2 := by unfold dropOne; split <;> (try split) <;> (try split) <;> simp
    omega
theorem dropPre {a b : Sp} (ha : a.wf) (hb : b.wf) (h : decide (b.f < a.f) = true) : wrap64 (a.f - 1) = a.f - 1 := by
  have := of_decide_eq_true h; unfold Sp.wf at *; exact IntWalk.wrap64_in _ ⟨by omega, by omega⟩
theorem dropPost {a b : Sp} (ha : a.wf) (hb : b.wf) (h : decide (a.t < b.t) = true) : wrap64 (a.t + 1) = a.t + 1 := by
  have := of_decide_eq_true h; unfold Sp.wf at *; exact IntWalk.wrap64_in _ ⟨by omega, by omega⟩

set_option maxRecDepth 100000 in
set_option maxHeartbeats 4000000 in
theorem drop_any (xs : List Sp) (hwf : ∀ x ∈ xs, x.wf) (s : Sp) (hsw : s.wf) (a : Option Addr) (cap : Nat) (w : World) (hs : SlS w a cap xs) (hb : xs.length ≤ 1000000) :
    Calls Try.prog 34 #[.slice a xs.length cap, s.v] w (SpRes .u16 (okN (okSp xs s)) (dropS xs s) w) := by
  have hmax := len_max hs
  unfold Sp.v
  cases hso : soundB xs
  · have HS := hid (fun W h => hso ▸ sound_any xs hwf a cap W h)
    have Hso := hid hso
    clear hso
    go_enter Try.func34, Try.ntmps34
    go_wp2_with (go_at_call 40; refine (HS.out _ (hs.alloc _)).mono ?_; rintro _ _ ⟨⟨e, rfl⟩, rfl⟩)
    go_ret2
    refine ⟨(by (try unfold Ov); repeat (first | with_reducible exact ex_over | with_reducible exact over_self _ | with_reducible refine ex_into ?_ _ | with_reducible refine ex_alloc ?_ _ | with_reducible refine ex_drew ?_ | ((with_reducible refine ex_setCell ?_ ?_ _); rotate_left; (first | omega | (simp; done) | (simp; omega))) | exact ex_over)), .slice none 0 0, by rw [okSp_no1 Hso.out]; rfl, ?_⟩
    rw [dropS, okSp_no1 Hso.out]
    exact Own.nil _
  · have HS := hid (fun W h => hso ▸ sound_any xs hwf a cap W h)
    have Hso := hid hso
    clear hso
    cases hft : decide (s.t < s.f)
    · have Hft := hid hft
      have HF := hid (fun W h => find_any xs s.f Hso a cap W h hb)
      have hn : findS xs s.f ≤ xs.length := (risesAt_find Hso.out s.f).1
      obtain ⟨n, hnn⟩ : ∃ n, n = findS xs s.f := ⟨_, rfl⟩
      have Hn := hid hnn
      rw [← hnn] at HF hn
      clear hnn
      obtain ⟨a2, cap2, q2, hs2⟩ := run_take span_elem hs hn
      obtain ⟨a3, cap3, q3, hs3⟩ := run_drop span_elem hs hn
      obtain ⟨fs, hfs⟩ : ∃ fs, fs = xs.take n := ⟨_, rfl⟩
      obtain ⟨zs, hzs⟩ : ∃ zs, zs = xs.drop n := ⟨_, rfl⟩
      rw [← hfs] at q2 hs2
      rw [← hzs] at q3 hs3
      have hfl : fs.length ≤ 1000000 := by rw [hfs, List.length_take]; omega
      have hzl : zs.length ≤ 1000000 := by rw [hzs, List.length_drop]; omega
      have hzw : Hid (∀ x ∈ zs, x.wf) := fun x hx => hwf x (by rw [hzs] at hx; exact List.mem_of_mem_drop hx)
      have Hfs := hid hfs
      have Hzs := hid hzs
      clear hfs hzs
      go_enter Try.func34, Try.ntmps34
      go_wp2_with (first | (go_at_call 40; refine (HS.out _ (hs.alloc _)).mono ?_; rintro _ _ ⟨⟨e, rfl⟩, rfl⟩) | (go_at_call 57; refine (HF.out _ ((hs.alloc _).over _)).mono ?_; rintro _ _ ⟨⟨e3, rfl⟩, rfl⟩) | (go_at_call 58; refine (cloneS_any fs _ _ _ (((hs2.alloc _).over _).over _) hfl).mono ?_; rintro _ _ ⟨⟨e4, rfl⟩, v0, rfl, hown0⟩))
      go_loopw [7, 32] (fun out i wr => ∃ (k : Nat) (ys : List Sp), k ≤ zs.length ∧ i = .int .i64 k ∧ Ov (w.alloc (.cells #[.int .i64 s.f, .int .i64 s.t] 53)) wr ∧ OwnS (w.heap.size + 1) wr out ys ∧ Hid (ys = fs ++ dropGo s (zs.take k))) (fun _ i _ => zs.length - (intOf i).toNat)
      case atStart => exact ⟨0, fs, Nat.zero_le _, rfl, (by (try unfold Ov); repeat (first | with_reducible exact ex_over | with_reducible exact over_self _ | with_reducible refine ex_into ?_ _ | with_reducible refine ex_alloc ?_ _ | with_reducible refine ex_drew ?_ | ((with_reducible refine ex_setCell ?_ ?_ _); rotate_left; (first | omega | (simp; done) | (simp; omega))) | exact ex_over)), Own.mono hown0 (by simp; omega), hid (by simp [dropGo])⟩
      case round =>
        obtain ⟨k, ys, hk, rfl, ⟨e, rfl⟩, hown, hys⟩ := hrel
        have hyl : ys.length ≤ 3000000 := by
          rw [hys.out, List.length_append]
          have := dropGo_len (s := s) (zs.take k)
          have := List.length_take_le k zs
          omega
        by_cases hlt : k < zs.length
        · obtain ⟨b, off, rfl, hb, c0, c1⟩ := SlS.at_ hs3 hlt
          have hzk := hid (hzw _ (List.getElem_mem hlt))
          clear hzw
          cases h1 : decide (s.t < zs[k].f)
          · have H1 := hid h1
            cases h2 : decide (zs[k].f < s.f)
            · have H2 := hid h2
              cases h3 : decide (s.t < zs[k].t)
              · have H3 := hid h3
                go_wp2_with fail
                go_roundw
                case rel => exact ⟨k + 1, ys, by omega, by go_num, (by (try unfold Ov); repeat (first | with_reducible exact ex_over | with_reducible exact over_self _ | with_reducible refine ex_into ?_ _ | with_reducible refine ex_alloc ?_ _ | with_reducible refine ex_drew ?_ | ((with_reducible refine ex_setCell ?_ ?_ _); rotate_left; (first | omega | (simp; done) | (simp; omega))) | exact ex_over)), (by repeat (first | with_reducible exact hown | with_reducible refine Own.over ?_ _ | with_reducible refine Own.alloc ?_ _ | with_reducible refine Own.drew ?_ | exact hown)), hid (by have := dropGo_step hlt hys.out (dropOne_2 H1.out H2.out H3.out); simpa using this)⟩
                case measure => simp [intOf]; omega
              · have H3 := hid h3
                have q4 := dropPost hsw hzk.out h3
                go_wp2_with (at_builtin; refine wpList_append span_elem Sp.cs_len Sp.cs_one rfl (.tmp 64) (.tmp 71) rfl (B := w.alloc (.cells #[.int .i64 s.f, .int .i64 s.t] 53)) (xs := [(⟨s.t + 1, zs[k].t⟩ : Sp)]) hown rfl rfl (by (try unfold Ov); repeat (first | with_reducible exact ex_over | with_reducible exact over_self _ | with_reducible refine ex_into ?_ _ | with_reducible refine ex_alloc ?_ _ | with_reducible refine ex_drew ?_ | ((with_reducible refine ex_setCell ?_ ?_ _); rotate_left; (first | omega | (simp; done) | (simp; omega))) | exact ex_over)) (by (try unfold Ov); repeat (first | with_reducible exact ex_over | with_reducible exact over_self _ | with_reducible refine ex_into ?_ _ | with_reducible refine ex_alloc ?_ _ | with_reducible refine ex_drew ?_ | ((with_reducible refine ex_setCell ?_ ?_ _); rotate_left; (first | omega | (simp; done) | (simp; omega))) | exact ex_over)) (by simp) (by simp; try omega) (by first | exact Sl.one_new (y := (⟨s.t + 1, zs[k].t⟩ : Sp)) (by simp; try omega) | exact Sl.drew (Sl.one_new (y := (⟨s.t + 1, zs[k].t⟩ : Sp)) (by simp; try omega))) (by simp only [List.length_append, List.length_singleton]; unfold maxLen; omega) (by simp only [List.length_append, List.length_singleton]; omega) ?_; intro v' x' hown' _ _)
                go_roundw
                case rel => exact ⟨k + 1, _, by omega, by go_num, (by (try unfold Ov); repeat (first | with_reducible exact ex_over | with_reducible exact over_self _ | with_reducible refine ex_into ?_ _ | with_reducible refine ex_alloc ?_ _ | with_reducible refine ex_drew ?_ | ((with_reducible refine ex_setCell ?_ ?_ _); rotate_left; (first | omega | (simp; done) | (simp; omega))) | exact ex_over)), hown', hid (dropGo_step hlt hys.out (dropOne_3 H1.out H2.out H3.out))⟩
                case measure => simp [intOf]; omega
            · have H2 := hid h2
              have q5 := dropPre hsw hzk.out h2
              cases h3 : decide (s.t < zs[k].t)
              · have H3 := hid h3
                go_wp2_with (at_builtin; refine wpList_append span_elem Sp.cs_len Sp.cs_one rfl (.tmp 50) (.tmp 57) rfl (B := w.alloc (.cells #[.int .i64 s.f, .int .i64 s.t] 53)) (xs := [(⟨zs[k].f, s.f - 1⟩ : Sp)]) hown rfl rfl (by (try unfold Ov); repeat (first | with_reducible exact ex_over | with_reducible exact over_self _ | with_reducible refine ex_into ?_ _ | with_reducible refine ex_alloc ?_ _ | with_reducible refine ex_drew ?_ | ((with_reducible refine ex_setCell ?_ ?_ _); rotate_left; (first | omega | (simp; done) | (simp; omega))) | exact ex_over)) (by (try unfold Ov); repeat (first | with_reducible exact ex_over | with_reducible exact over_self _ | with_reducible refine ex_into ?_ _ | with_reducible refine ex_alloc ?_ _ | with_reducible refine ex_drew ?_ | ((with_reducible refine ex_setCell ?_ ?_ _); rotate_left; (first | omega | (simp; done) | (simp; omega))) | exact ex_over)) (by simp) (by simp; try omega) (by first | exact Sl.one_new (y := (⟨zs[k].f, s.f - 1⟩ : Sp)) (by simp; try omega) | exact Sl.drew (Sl.one_new (y := (⟨zs[k].f, s.f - 1⟩ : Sp)) (by simp; try omega))) (by simp only [List.length_append, List.length_singleton]; unfold maxLen; omega) (by simp only [List.length_append, List.length_singleton]; omega) ?_; intro v' x' hown' hk' hf'; have hk0 := hk' (w.heap.size + 1 + e.heap.size) 0 (by simp) (by simp; omega); have hk1 := hk' (w.heap.size + 1 + e.heap.size) 1 (by simp) (by simp; omega); clear hk' hf'; simp [go_sem] at hk0 hk1)
                go_roundw
                case rel => exact ⟨k + 1, _, by omega, by go_num, (by (try unfold Ov); repeat (first | with_reducible exact ex_over | with_reducible exact over_self _ | with_reducible refine ex_into ?_ _ | with_reducible refine ex_alloc ?_ _ | with_reducible refine ex_drew ?_ | ((with_reducible refine ex_setCell ?_ ?_ _); rotate_left; (first | omega | (simp; done) | (simp; omega))) | exact ex_over)), hown', hid (dropGo_step hlt hys.out (dropOne_4 H1.out H2.out H3.out))⟩
                case measure => simp [intOf]; omega
              · have H3 := hid h3
                have q4 := dropPost hsw hzk.out h3
                go_wp2_with (first | (at_builtin; refine wpList_append span_elem Sp.cs_len Sp.cs_one rfl (.tmp 50) (.tmp 57) rfl (B := w.alloc (.cells #[.int .i64 s.f, .int .i64 s.t] 53)) (xs := [(⟨zs[k].f, s.f - 1⟩ : Sp)]) hown rfl rfl (by (try unfold Ov); repeat (first | with_reducible exact ex_over | with_reducible exact over_self _ | with_reducible refine ex_into ?_ _ | with_reducible refine ex_alloc ?_ _ | with_reducible refine ex_drew ?_ | ((with_reducible refine ex_setCell ?_ ?_ _); rotate_left; (first | omega | (simp; done) | (simp; omega))) | exact ex_over)) (by (try unfold Ov); repeat (first | with_reducible exact ex_over | with_reducible exact over_self _ | with_reducible refine ex_into ?_ _ | with_reducible refine ex_alloc ?_ _ | with_reducible refine ex_drew ?_ | ((with_reducible refine ex_setCell ?_ ?_ _); rotate_left; (first | omega | (simp; done) | (simp; omega))) | exact ex_over)) (by simp) (by simp; try omega) (by first | exact Sl.one_new (y := (⟨zs[k].f, s.f - 1⟩ : Sp)) (by simp; try omega) | exact Sl.drew (Sl.one_new (y := (⟨zs[k].f, s.f - 1⟩ : Sp)) (by simp; try omega))) (by simp only [List.length_append, List.length_singleton]; unfold maxLen; omega) (by simp only [List.length_append, List.length_singleton]; omega) ?_; intro v' x' hown' hk' hf'; have hk0 := hk' (w.heap.size + 1 + e.heap.size) 0 (by simp) (by simp; omega); have hk1 := hk' (w.heap.size + 1 + e.heap.size) 1 (by simp) (by simp; omega); clear hk' hf'; simp [go_sem] at hk0 hk1) | (at_builtin; refine wpList_append span_elem Sp.cs_len Sp.cs_one rfl (.tmp 64) (.tmp 71) rfl (B := w.alloc (.cells #[.int .i64 s.f, .int .i64 s.t] 53)) (xs := [(⟨s.t + 1, zs[k].t⟩ : Sp)]) hown' rfl rfl (by (try unfold Ov); repeat (first | with_reducible exact ex_over | with_reducible exact over_self _ | with_reducible refine ex_into ?_ _ | with_reducible refine ex_alloc ?_ _ | with_reducible refine ex_drew ?_ | ((with_reducible refine ex_setCell ?_ ?_ _); rotate_left; (first | omega | (simp; done) | (simp; omega))) | exact ex_over)) (by (try unfold Ov); repeat (first | with_reducible exact ex_over | with_reducible exact over_self _ | with_reducible refine ex_into ?_ _ | with_reducible refine ex_alloc ?_ _ | with_reducible refine ex_drew ?_ | ((with_reducible refine ex_setCell ?_ ?_ _); rotate_left; (first | omega | (simp; done) | (simp; omega))) | exact ex_over)) (by simp) (by simp; try omega) (by first | exact Sl.one_new (y := (⟨s.t + 1, zs[k].t⟩ : Sp)) (by simp; try omega) | exact Sl.drew (Sl.one_new (y := (⟨s.t + 1, zs[k].t⟩ : Sp)) (by simp; try omega))) (by simp only [List.length_append, List.length_singleton]; unfold maxLen; omega) (by simp only [List.length_append, List.length_singleton]; omega) ?_; intro v2 x2 hown2 _ _))
                go_roundw
                case rel => exact ⟨k + 1, _, by omega, by go_num, (by (try unfold Ov); repeat (first | with_reducible exact ex_over | with_reducible exact over_self _ | with_reducible refine ex_into ?_ _ | with_reducible refine ex_alloc ?_ _ | with_reducible refine ex_drew ?_ | ((with_reducible refine ex_setCell ?_ ?_ _); rotate_left; (first | omega | (simp; done) | (simp; omega))) | exact ex_over)), hown2, hid (by have := dropGo_step hlt hys.out (dropOne_5 H1.out H2.out H3.out); simpa using this)⟩
                case measure => simp [intOf]; omega
          · have H1 := hid h1
            go_wp2_with (at_builtin; refine wpList_append span_elem Sp.cs_len Sp.cs_one rfl (.tmp 41) (.tmp 43) rfl (B := w.alloc (.cells #[.int .i64 s.f, .int .i64 s.t] 53)) (xs := [zs[k]]) hown rfl rfl (by (try unfold Ov); repeat (first | with_reducible exact ex_over | with_reducible exact over_self _ | with_reducible refine ex_into ?_ _ | with_reducible refine ex_alloc ?_ _ | with_reducible refine ex_drew ?_ | ((with_reducible refine ex_setCell ?_ ?_ _); rotate_left; (first | omega | (simp; done) | (simp; omega))) | exact ex_over)) (by (try unfold Ov); repeat (first | with_reducible exact ex_over | with_reducible exact over_self _ | with_reducible refine ex_into ?_ _ | with_reducible refine ex_alloc ?_ _ | with_reducible refine ex_drew ?_ | ((with_reducible refine ex_setCell ?_ ?_ _); rotate_left; (first | omega | (simp; done) | (simp; omega))) | exact ex_over)) (by simp) (by simp; try omega) (by first | exact Sl.one_new (y := zs[k]) (by simp; try omega) | exact Sl.drew (Sl.one_new (y := zs[k]) (by simp; try omega))) (by simp only [List.length_append, List.length_singleton]; unfold maxLen; omega) (by simp only [List.length_append, List.length_singleton]; omega) ?_; intro v' x' hown' _ _)
            go_roundw
            case rel => exact ⟨k + 1, _, by omega, by go_num, (by (try unfold Ov); repeat (first | with_reducible exact ex_over | with_reducible exact over_self _ | with_reducible refine ex_into ?_ _ | with_reducible refine ex_alloc ?_ _ | with_reducible refine ex_drew ?_ | ((with_reducible refine ex_setCell ?_ ?_ _); rotate_left; (first | omega | (simp; done) | (simp; omega))) | exact ex_over)), hown', hid (dropGo_step hlt hys.out (dropOne_1 H1.out))⟩
            case measure => simp [intOf]; omega
        · go_wp2_with fail
          go_ret2
          have hkk : k = zs.length := by omega
          refine ⟨(by (try unfold Ov); repeat (first | with_reducible exact ex_over | with_reducible exact over_self _ | with_reducible refine ex_into ?_ _ | with_reducible refine ex_alloc ?_ _ | with_reducible refine ex_drew ?_ | ((with_reducible refine ex_setCell ?_ ?_ _); rotate_left; (first | omega | (simp; done) | (simp; omega))) | exact ex_over)), _, by rw [okSp_yes Hso.out Hft.out]; rfl, ?_⟩
          have : dropS xs s = ys := by rw [dropS, okSp_yes Hso.out Hft.out, if_pos rfl, hys.out, hkk, List.take_length, Hfs.out, Hzs.out, Hn.out]
          rw [this]
          exact Own.mono hown (by omega)
    · have Hft := hid hft
      go_enter Try.func34, Try.ntmps34
      go_wp2_with (go_at_call 40; refine (HS.out _ (hs.alloc _)).mono ?_; rintro _ _ ⟨⟨e, rfl⟩, rfl⟩)
      go_ret2
      refine ⟨(by (try unfold Ov); repeat (first | with_reducible exact ex_over | with_reducible exact over_self _ | with_reducible refine ex_into ?_ _ | with_reducible refine ex_alloc ?_ _ | with_reducible refine ex_drew ?_ | ((with_reducible refine ex_setCell ?_ ?_ _); rotate_left; (first | omega | (simp; done) | (simp; omega))) | exact ex_over)), .slice none 0 0, by rw [okSp_no2 Hft.out]; rfl, ?_⟩
      rw [dropS, okSp_no2 Hft.out]
      exact Own.nil _

end Go.Proofs.Ytbkekpfancbemaa
