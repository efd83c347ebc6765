/- The law SpanOrder holds: for every list of spans and every number the call returns true, and the arguments read as they did. -/
import Derived.Test.YtbkekpfancbemaaSpanO
import Derived.Test.YtbkekpfancbemaaSpanT
namespace Go.Proofs.Ytbkekpfancbemaa
set_option linter.unusedVariables false
set_option linter.unusedSimpArgs false
open Go.RowKit

theorem rev_step {xs : List Sp} {k : Nat} (h : k < xs.length) : xs.reverse.take (xs.length - k) = xs.reverse.take (xs.length - (k + 1)) ++ [xs[k]] := by
  have h1 : xs.length - k = (xs.length - (k + 1)) + 1 := by omega
  have h2 : xs.length - (k + 1) < xs.reverse.length := by simp; omega
  rw [h1, take_snoc' h2]
  congr 2
  simp only [List.getElem_reverse]
  congr 1
  omega

set_option maxRecDepth 100000 in
set_option maxHeartbeats 4000000 in
theorem spanOrder_any (xs : List Sp) (hwf : ∀ x ∈ xs, x.wf) (a : Option Addr) (cap : Nat) (n : Int) (_ht : (Lit.int .i64 n).wf = true) (w : World) (hs : SlS w a cap xs) :
    Calls Try.prog 9 #[.slice a xs.length cap, .int .i64 n] w (Ret w (.bool true)) := by
  have hmax := len_max hs
  have HK := hid known_any
  have hn := bounds_i64 _ht
  clear _ht
  cases hl : decide (20 < xs.length)
  · have hle : xs.length ≤ 20 := by have := of_decide_eq_false hl; omega
    clear hl
    have HX := hid (fun W h => set_any xs hwf a cap W h (by omega))
    have HY : Hid (∀ a c ys W, SlS W a c ys → Hid (ys = xs.reverse) → Calls Try.prog 37 #[.slice a ys.length c] W (Gives W fun v w' => OwnS W.heap.size w' v (setS xs))) := fun a c ys W h e => by
      have e := e.out
      subst e
      have k := set_any xs.reverse (fun x hx => hwf x (by simpa using hx)) a c W h (by simp; omega)
      rw [set_turn hwf] at k
      exact k
    obtain ⟨p1, p2, _⟩ := setS_spec hwf
    have p4 := setS_len xs
    have hin := hid (fun x hx => set_in hwf (x := x) hx)
    have h0 : xs.length = 0 → setS xs = [] := fun h => by rw [List.eq_nil_of_length_eq_zero h]; rfl
    obtain ⟨x, hx⟩ : ∃ x, x = setS xs := ⟨_, rfl⟩
    rw [← hx] at HX HY p1 p2 p4 hin h0
    clear hx
    have HS1 := hid (fun a b c d W h h' => same_any x x a b c d W h h')
    rw [decide_eq_true rfl] at HS1
    have H0 := hid h0
    have HP := hid p1
    have HQ := hid p2
    clear h0 p1 p2
    cases hz : decide (0 < xs.length)
    · have hl0 : xs.length = 0 := by have := of_decide_eq_false hz; omega
      have hxs : xs = [] := List.eq_nil_of_length_eq_zero hl0
      have hx0 : x = [] := H0.out hl0
      subst hxs hx0
      clear hz hl0 hwf hmax hle p4
      simp only [List.length_nil] at HX HS1
      have HZ := hid (fun a c W h => HY.out a c [] W h (hid rfl))
      simp only [List.length_nil] at HZ
      go_enter Try.func9, Try.ntmps9
      go_wp2_with (go_at_call 30; (with_reducible refine (HK.out _).mono ?_); rintro _ _ ⟨⟨e1, rfl⟩, rfl⟩)
      go_loopw [5, 6] (fun t i wr => t = .slice none 0 0 ∧ i = .int .i64 (-1) ∧ Ov w wr) (fun _ _ _ => 0)
      case atStart => exact ⟨rfl, rfl, (by (try unfold Ov); repeat (first | with_reducible exact ex_over | with_reducible exact over_self _ | with_reducible refine ex_into ?_ _ | with_reducible refine ex_alloc ?_ _ | with_reducible refine ex_drew ?_ | ((with_reducible refine ex_setCell ?_ ?_ _); rotate_left; (first | omega | (simp; done) | (simp; omega))) | exact ex_over))⟩
      case round =>
        obtain ⟨rfl, rfl, ⟨e, rfl⟩⟩ := hrel
        have HN : Hid (∀ W : World, SlS W none 0 []) := fun W => Sl.nil W
        go_wp2_with (first
          | (go_at_call 37; (with_reducible refine (HX.out _ (by repeat (first | with_reducible exact hs | with_reducible refine Sl.over ?_ _ | with_reducible refine Sl.alloc ?_ _ | with_reducible refine Sl.drew ?_ | exact hs))).mono ?_); rintro _ _ ⟨⟨e2, rfl⟩, v2, rfl, o2⟩; obtain ⟨a2, c2, rfl, s2⟩ := Own.slice Sp.cs_len o2; clear o2)
          | (go_at_call 37; (with_reducible refine (HZ.out _ _ _ (HN.out _)).mono ?_); rintro _ _ ⟨⟨e3, rfl⟩, v3, rfl, o3⟩; obtain ⟨a3, c3, rfl, s3⟩ := Own.slice Sp.cs_len o3; clear o3)
          | (go_at_call 36; (with_reducible refine (HS1.out _ _ _ _ _ (by repeat (first | with_reducible exact s2 | with_reducible refine Sl.over ?_ _ | with_reducible refine Sl.alloc ?_ _ | with_reducible refine Sl.drew ?_ | exact s2)) (by repeat (first | with_reducible exact s3 | with_reducible refine Sl.over ?_ _ | with_reducible refine Sl.alloc ?_ _ | with_reducible refine Sl.drew ?_ | exact s3))).mono ?_); rintro _ _ ⟨⟨e4, rfl⟩, rfl⟩))
        go_ret
        exact ⟨(by (try unfold Ov); repeat (first | with_reducible exact ex_over | with_reducible exact over_self _ | with_reducible refine ex_into ?_ _ | with_reducible refine ex_alloc ?_ _ | with_reducible refine ex_drew ?_ | ((with_reducible refine ex_setCell ?_ ?_ _); rotate_left; (first | omega | (simp; done) | (simp; omega))) | exact ex_over)), rfl⟩
    · have hpos := of_decide_eq_true hz
      have hz2 : (((xs.length : Nat) : Int) == 0) = false := by rw [beq_eq_false_iff_ne]; omega
      obtain ⟨k, hk, hkl⟩ : ∃ k : Nat, (if n < 0 then 0 else n).tmod (xs.length : Int) = (k : Int) ∧ k < xs.length := by
        have h1 : 0 ≤ (if n < 0 then 0 else n) := by split <;> omega
        refine ⟨((if n < 0 then 0 else n).tmod (xs.length : Int)).toNat, ?_, ?_⟩
        · have := Int.tmod_nonneg (xs.length : Int) h1; omega
        · have := Int.tmod_nonneg (xs.length : Int) h1
          have := Int.tmod_lt_of_pos (if n < 0 then 0 else n) (b := (xs.length : Int)) (by omega); omega
      obtain ⟨M, hM⟩ : ∃ M, M = turned xs[k] := ⟨_, rfl⟩
      have e1 : (if xs[k].t < xs[k].f then xs[k].t else xs[k].f) = M.f := by rw [hM]; rfl
      have e2 : (if xs[k].f < xs[k].t then xs[k].t else xs[k].f) = M.t := by rw [hM]; rfl
      have hMl := turned_le xs[k]
      have hMw := turned_wf (hwf _ (List.getElem_mem hkl))
      have hMi := hin.out _ (List.getElem_mem hkl)
      rw [← hM] at hMl hMw hMi
      have HA := hid (fun a c W h => add_any x HQ.out M hMw a c W h (by omega))
      rw [okSp_iff.2 ⟨HP.out, hMl⟩, hMi] at HA
      have Hk := hid hk
      have He1 := hid e1
      have He2 := hid e2
      clear hk hM hMi e1 e2
      go_enter Try.func9, Try.ntmps9
      go_wp2_with (go_at_call 30; (with_reducible refine (HK.out _).mono ?_); rintro _ _ ⟨⟨e1, rfl⟩, rfl⟩)
      go_loopw [5, 6] (fun t i wr => ∃ (m : Nat) (ys : List Sp), m ≤ xs.length ∧ i = .int .i64 ((m : Int) - 1) ∧ Ov w wr ∧ OwnS w.heap.size wr t ys ∧ ys.length + m ≤ 20 ∧ Hid (ys = xs.reverse.take (xs.length - m))) (fun _ i _ => (intOf i + 1).toNat)
      case atStart => exact ⟨xs.length, [], Nat.le_refl _, rfl, (by (try unfold Ov); repeat (first | with_reducible exact ex_over | with_reducible exact over_self _ | with_reducible refine ex_into ?_ _ | with_reducible refine ex_alloc ?_ _ | with_reducible refine ex_drew ?_ | ((with_reducible refine ex_setCell ?_ ?_ _); rotate_left; (first | omega | (simp; done) | (simp; omega))) | exact ex_over)), Own.nil _, (by have : ([] : List Sp).length = 0 := rfl; omega), hid (by simp)⟩
      case round =>
        obtain ⟨m, ys, hm, rfl, ⟨e, rfl⟩, hown, hyl, hys⟩ := hrel
        by_cases hm0 : 0 < m
        · obtain ⟨j, rfl⟩ : ∃ j, m = j + 1 := ⟨m - 1, by omega⟩
          have hjl : j < xs.length := by omega
          obtain ⟨b, off, rfl, hb, c0, c1⟩ := hs.at_ hjl
          rw [show (((j + 1 : Nat) : Int) - 1) = (j : Int) by omega]
          go_wp2_with (at_builtin; refine wpList_append span_elem Sp.cs_len Sp.cs_one rfl (.tmp 26) (.tmp 31) rfl (B := w) (xs := [xs[j]]) hown rfl rfl (by (try unfold Ov); repeat (first | with_reducible exact ex_over | with_reducible exact over_self _ | with_reducible refine ex_into ?_ _ | with_reducible refine ex_alloc ?_ _ | with_reducible refine ex_drew ?_ | ((with_reducible refine ex_setCell ?_ ?_ _); rotate_left; (first | omega | (simp; done) | (simp; omega))) | exact ex_over)) (by (try unfold Ov); repeat (first | with_reducible exact ex_over | with_reducible exact over_self _ | with_reducible refine ex_into ?_ _ | with_reducible refine ex_alloc ?_ _ | with_reducible refine ex_drew ?_ | ((with_reducible refine ex_setCell ?_ ?_ _); rotate_left; (first | omega | (simp; done) | (simp; omega))) | exact ex_over)) (by simp) (by simp; try omega) (by first | exact Sl.one_new (y := xs[j]) (by simp; try omega) | exact Sl.drew (Sl.one_new (y := xs[j]) (by simp; try omega))) (by simp only [List.length_append, List.length_singleton]; unfold maxLen; omega) (by simp only [List.length_append, List.length_singleton]; omega) ?_; intro v' x' hown' _ _)
          go_roundw
          case rel => exact ⟨j, ys ++ [xs[j]], by omega, rfl, (by (try unfold Ov); repeat (first | with_reducible exact ex_over | with_reducible exact over_self _ | with_reducible refine ex_into ?_ _ | with_reducible refine ex_alloc ?_ _ | with_reducible refine ex_drew ?_ | ((with_reducible refine ex_setCell ?_ ?_ _); rotate_left; (first | omega | (simp; done) | (simp; omega))) | exact ex_over)), hown', (by rw [List.length_append, List.length_singleton]; omega), hid (by rw [rev_step hjl, ← hys.out])⟩
          case measure => (simp [intOf]; try omega)
        · obtain rfl : m = 0 := by omega
          obtain ⟨b, off, rfl, hb, c0, c1⟩ := hs.at_ hkl
          obtain ⟨ay, cy, rfl, hsy⟩ := Own.slice Sp.cs_len hown
          have hy := hid (show ys = xs.reverse by rw [hys.out, Nat.sub_zero, List.take_of_length_le (by simp)])
          have hk := Hk.out
          have e1 := He1.out
          have e2 := He2.out
          go_wp2_with (first
            | (go_at_call 37; (with_reducible refine (HX.out _ (by repeat (first | with_reducible exact hs | with_reducible refine Sl.over ?_ _ | with_reducible refine Sl.alloc ?_ _ | with_reducible refine Sl.drew ?_ | exact hs))).mono ?_); rintro _ _ ⟨⟨e2, rfl⟩, v2, rfl, o2⟩; obtain ⟨a2, c2, rfl, s2⟩ := Own.slice Sp.cs_len o2; clear o2)
            | (go_at_call 37; (with_reducible refine (HY.out _ _ ys _ (by repeat (first | with_reducible exact hsy | with_reducible refine Sl.over ?_ _ | with_reducible refine Sl.alloc ?_ _ | with_reducible refine Sl.drew ?_ | exact hsy)) hy).mono ?_); rintro _ _ ⟨⟨e3, rfl⟩, v3, rfl, o3⟩; obtain ⟨a3, c3, rfl, s3⟩ := Own.slice Sp.cs_len o3; clear o3)
            | (go_at_call 36; (with_reducible refine (HS1.out a2 a3 _ _ _ (by repeat (first | with_reducible exact s2 | with_reducible refine Sl.over ?_ _ | with_reducible refine Sl.alloc ?_ _ | with_reducible refine Sl.drew ?_ | exact s2)) (by repeat (first | with_reducible exact s3 | with_reducible refine Sl.over ?_ _ | with_reducible refine Sl.alloc ?_ _ | with_reducible refine Sl.drew ?_ | exact s3))).mono ?_); rintro _ _ ⟨⟨e4, rfl⟩, rfl⟩)
            | (go_at_call 32; (with_reducible refine (HA.out _ _ _ (by repeat (first | with_reducible exact s2 | with_reducible refine Sl.over ?_ _ | with_reducible refine Sl.alloc ?_ _ | with_reducible refine Sl.drew ?_ | exact s2))).mono ?_); rintro _ _ ⟨⟨e5, rfl⟩, v5, rfl, o5⟩; obtain ⟨a5, c5, rfl, s5⟩ := Own.slice Sp.cs_len o5; clear o5)
            | (go_at_call 36; (with_reducible refine (HS1.out a2 a5 _ _ _ (by repeat (first | with_reducible exact s2 | with_reducible refine Sl.over ?_ _ | with_reducible refine Sl.alloc ?_ _ | with_reducible refine Sl.drew ?_ | exact s2)) (by repeat (first | with_reducible exact s5 | with_reducible refine Sl.over ?_ _ | with_reducible refine Sl.alloc ?_ _ | with_reducible refine Sl.drew ?_ | exact s5))).mono ?_); rintro _ _ ⟨⟨e6, rfl⟩, rfl⟩))
          all_goals (go_ret; exact ⟨(by (try unfold Ov); repeat (first | with_reducible exact ex_over | with_reducible exact over_self _ | with_reducible refine ex_into ?_ _ | with_reducible refine ex_alloc ?_ _ | with_reducible refine ex_drew ?_ | ((with_reducible refine ex_setCell ?_ ?_ _); rotate_left; (first | omega | (simp; done) | (simp; omega))) | exact ex_over)), rfl⟩)
  · have hlt : 20 < xs.length := of_decide_eq_true hl
    go_enter Try.func9, Try.ntmps9
    go_wp2_with (go_at_call 30; (with_reducible refine (HK.out _).mono ?_); rintro _ _ ⟨⟨e1, rfl⟩, rfl⟩)
    go_ret
    exact ⟨(by (try unfold Ov); repeat (first | with_reducible exact ex_over | with_reducible exact over_self _ | with_reducible refine ex_into ?_ _ | with_reducible refine ex_alloc ?_ _ | with_reducible refine ex_drew ?_ | ((with_reducible refine ex_setCell ?_ ?_ _); rotate_left; (first | omega | (simp; done) | (simp; omega))) | exact ex_over)), rfl⟩

namespace spanOrder
open Go.ChangeShapes Go.WideShapes Go.ChangeAt
set_option maxRecDepth 100000 in
theorem lifted (os : Os) (started : os.Started) (H : Type) (enc : TypeId × Value → H) :
    ReturnsInHanded {} Try.checked os 9 .any (Rows.spanOrderSpec.pre6 enc Try.prog Try.f9 Rows.spanOrderRow.domain false) (Rows.spanOrderSpec.post enc Try.prog Try.f9 false true false false) := by
  refine returnsInHanded_of_change (C := Try.checked) ownKnob0 started (by kernel_rfl) Try.func9
    (ChangeSpec.witness6 (enc := enc) (C := Try.checked) false ⟨#[], #[.slice none 0 0, .int .i64 0], []⟩ 8 (by kernel_rfl) (by kernel_rfl) (by kernel_rfl) (by kernel_rfl)) ?_
  intro W base args ds gs before hval0 hW hcnd _
  have hval : ∀ (j : Nat) t v, Try.f9.params[j]? = some t → args[j]? = some v → Value.okWide Try.prog W .any base t v := hval0
  have hW' := hW
  obtain ⟨p, q, hA0, hV, rfl, hfz, hnd⟩ := hW
  have hA : DataW.TrodAll enc Try.prog W 0 (fun _ => true) true Try.f9.params.toList args.toList ds p := hA0
  rw [Try.params9] at hA hval
  obtain ⟨v0, vs0, d0, ds0, p0, q0, hargs, rfl, rfl, h0, r0⟩ := trodAll_cons hA
  obtain ⟨v1, vs1, d1, ds1, p1, q1, rfl, rfl, rfl, h1, r1⟩ := trodAll_cons r0
  obtain ⟨rfl, rfl, rfl⟩ := trodAll_nil r1
  obtain rfl : args = #[v0, v1] := by cases args; simp_all
  obtain ⟨rfl, rfl⟩ := trodVars_none hV
  have lt0 : ∀ x ∈ p0, x.block < W.heap.size := by obtain ⟨m, hm⟩ := h0; exact DataW.trod_lt m _ _ _ hm
  have k0 := h0
  obtain ⟨a0, n0, c0, rfl⟩ := okWide_slice Try.underlying51 (hval 0 51 v0 rfl rfl)
  obtain ⟨x0, rfl, s0, w0⟩ := open_spans h0
  have lt1 : ∀ x ∈ p1, x.block < W.heap.size := by obtain ⟨m, hm⟩ := h1; exact DataW.trod_lt m _ _ _ hm
  have k1 := h1
  obtain ⟨x1, rfl, _, _, w1⟩ := open_int Try.underlying3 (hval 1 3 v1 rfl rfl) h1
  clear hA0 hval0
  refine (spanOrder_any x0 w0 a0 c0 x1 w1 W s0).mono fun e W' ⟨bel, he⟩ => ?_
  have bel := below_of_over bel
  subst he
  exact ⟨_, rfl, _, _, _, [], _, [], hW', trodAll_mk1 (shut_bool Try.underlying4 _), (trodAll_cons_mk (Below.trod laidOut0 (by kernel_rfl) (of_decide_eq_true (by kernel_rfl)) k0 bel lt0) (trodAll_cons_mk (Below.trod laidOut0 (by kernel_rfl) (of_decide_eq_true (by kernel_rfl)) k1 bel lt1) trodAll_mk0)), rfl, bel.frame _, fun h => by cases h⟩

theorem over : Rows.spanOrderRow.holds Try.pinned (OpenSpec.ofChange Rows.spanOrderSpec) :=
  OpenClaim.holds_of_wide 9 Try.f9 rfl rfl rfl rfl rfl rfl rfl ⟨rfl, rfl, rfl, rfl, rfl⟩ rfl rfl rfl rfl rfl (by kernel_rfl) Try.func9 (by kernel_rfl)
    (of_decide_eq_true (by kernel_rfl)) (by unfold Func.isWrapper; first | (rw [if_pos (by decide +kernel)]; kernel_rfl) | (rw [if_neg (by decide +kernel)]; exact ⟨rfl, rfl⟩))
    (fun os started H enc _ => lifted os started H enc)

theorem proved : Rows.SpanOrderSaid := over
end spanOrder
end Go.Proofs.Ytbkekpfancbemaa
