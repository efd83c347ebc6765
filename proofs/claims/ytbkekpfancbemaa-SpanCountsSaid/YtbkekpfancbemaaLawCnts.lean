/- The law SpanCounts holds: for every two lists of spans and every time the call returns true, and the arguments read as they did. -/
import Derived.Test.YtbkekpfancbemaaSpanO
import Derived.Test.YtbkekpfancbemaaSpanT
namespace Go.Proofs.Ytbkekpfancbemaa
set_option linter.unusedVariables false
set_option linter.unusedSimpArgs false
open Go.RowKit

theorem countV_snd {l : List Sp} (h : PW l) : ∃ b, countV l = .tuple #[.int .u64 (cntW l), .bool b] := by
  rw [countV, (soundB_PW _).2 h, if_pos rfl]; exact ⟨_, rfl⟩
theorem allS_snoc {x y : List Sp} {k : Nat} (h : k < y.length) : allS x (y.take (k + 1)) = addS (allS x (y.take k)) y[k] := by
  rw [take_snoc' h, allS, List.foldl_append]; rfl

set_option maxRecDepth 100000 in
set_option maxHeartbeats 8000000 in
theorem spanCounts_any (xs : List Sp) (hwf : ∀ x ∈ xs, x.wf) (a : Option Addr) (cap : Nat) (ys : List Sp) (hwf' : ∀ x ∈ ys, x.wf) (b : Option Addr) (cap' : Nat) (t : Int) (_ht : (Lit.int .i64 t).wf = true) (w : World) (hs : SlS w a cap xs) (hs' : SlS w b cap' ys) :
    Calls Try.prog 14 #[.slice a xs.length cap, .slice b ys.length cap', .int .i64 t] w (Ret w (.bool true)) := by
  have hmax := len_max hs
  have hmax' := len_max hs'
  have HK := hid known_any
  clear _ht
  cases hl : decide (15 < xs.length)
  · cases hl' : decide (15 < ys.length)
    · have hle : xs.length ≤ 15 := by have := of_decide_eq_false hl; omega
      have hle' : ys.length ≤ 15 := by have := of_decide_eq_false hl'; omega
      clear hl hl'
      have HX := hid (fun W h => set_any xs hwf a cap W h (by omega))
      have HY := hid (fun W h => set_any ys hwf' b cap' W h (by omega))
      obtain ⟨p1, p2, p3⟩ := setS_spec hwf
      obtain ⟨q1, q2, q3⟩ := setS_spec hwf'
      have p4 := setS_len xs
      have q4 := setS_len ys
      generalize setS xs = x at *
      generalize setS ys = y at *
      clear p3 q3
      have b1 := (soundB_PW _).2 p1
      have b2 := (soundB_PW _).2 q1
      obtain ⟨m1, m2⟩ := meetS_spec p1 q1
      have HM := hid (fun a c b c' W h h' => meet_any x y p2 q2 a b c c' W h h' (by omega) (by omega))
      unfold MeetRes at HM
      rw [b1, b2, Bool.and_self] at HM
      have mw : ∀ s ∈ meetS x y, s.wf := fun s hsm => by
        rw [meet_same, rmeetS] at hsm
        split at hsm
        · obtain ⟨x1, h1, hsm⟩ := List.mem_flatMap.1 hsm
          obtain ⟨y1, h2, hsm⟩ := List.mem_flatMap.1 hsm
          have h1 := p2 _ h1
          have h2 := q2 _ h2
          unfold meetPut at hsm
          split at hsm <;> simp at hsm
          subst hsm
          unfold Sp.wf meet2 at *
          simp only
          split <;> split <;> omega
        · simp at hsm
      have hyv : ∀ s ∈ y, s.f ≤ s.t ∧ s.wf := fun s h => ⟨q1.1 s h, q2 s h⟩
      obtain ⟨u1, u2, u3⟩ := allS_spec y x p1 p2 hyv
      have ht : ∀ k, PW (allS x (y.take k)) ∧ (∀ s ∈ allS x (y.take k), s.wf) ∧ (allS x (y.take k)).length ≤ 30 := fun k => by
        obtain ⟨h1, h2, _⟩ := allS_spec (y.take k) x p1 p2 (fun s h => hyv s (List.mem_of_mem_take h))
        have := allS_len (y.take k) x
        have : (y.take k).length ≤ y.length := by rw [List.length_take]; omega
        exact ⟨h1, h2, by omega⟩
      have hc := cntW_both (cnt_both p1 q1 m1 u1 m2 u3)
      have hm : hasS (meetS x y) t = (hasS x t && hasS y t) := by rw [Bool.eq_iff_iff, Bool.and_eq_true, hasS_iff, hasS_iff, hasS_iff]; exact m2 t
      have hu : hasS (allS x y) t = (hasS x t || hasS y t) := by rw [Bool.eq_iff_iff, Bool.or_eq_true, hasS_iff, hasS_iff, hasS_iff]; exact u3 t
      have bm := (soundB_PW _).2 m1
      obtain ⟨d1, hc1⟩ := countV_snd p1
      obtain ⟨d2, hc2⟩ := countV_snd q1
      obtain ⟨d3, hc3⟩ := countV_snd m1
      obtain ⟨d4, hc4⟩ := countV_snd u1
      obtain ⟨m, hme⟩ : ∃ m, m = meetS x y := ⟨_, rfl⟩
      obtain ⟨u, hue⟩ : ∃ u, u = allS x y := ⟨_, rfl⟩
      rw [← hme] at HM hm bm hc3 hc mw
      rw [← hue] at hu hc4 hc u2
      have HC1 := hid (fun a c W h => count_any x p2 a c W h)
      have HC2 := hid (fun a c W h => count_any y q2 a c W h)
      have HC3 := hid (fun a c W h => count_any m mw a c W h)
      have HC4 := hid (fun a c W h => count_any u u2 a c W h)
      have HH1 := hid (fun a c W h => has_any x t a c W h)
      have HH2 := hid (fun a c W h => has_any y t a c W h)
      have HH3 := hid (fun a c W h => has_any m t a c W h)
      have HH4 := hid (fun a c W h => has_any u t a c W h)
      have HSm := hid (fun a c W h => sound_any m mw a c W h)
      rw [hc1] at HC1
      rw [hc2] at HC2
      rw [hc3] at HC3
      rw [hc4] at HC4
      rw [hm] at HH3
      rw [hu] at HH4
      rw [bm] at HSm
      generalize cntW x = P at *
      generalize cntW y = Q at *
      generalize cntW m = R at *
      generalize cntW u = S at *
      have hpq : (IntKind.u64.wrap (P + Q) == IntKind.u64.wrap (R + S)) = true := by rw [hc]; exact beq_self_eq_true _
      have Hy := hid hyv
      have Ht := hid ht
      have Hu := hid hue
      have HQ := hid q2
      clear hc hc1 hc2 hc3 hc4 hm hu bm hme hue m1 m2 u1 u2 u3 b1 b2 p1 q1 p2 q2 mw hyv ht hwf hwf'
      cases g1 : hasS x t <;> cases g2 : hasS y t
      all_goals
        rw [g1] at HH1 HH3 HH4
        rw [g2] at HH2 HH3 HH4
        clear g1 g2
        simp only [Bool.and_true, Bool.and_false, Bool.or_true, Bool.or_false] at HH3 HH4
        go_enter Try.func14, Try.ntmps14
        go_wp2_with (first
          | (go_at_call 30; (with_reducible refine (HK.out _).mono ?_); rintro _ _ ⟨⟨e1, rfl⟩, rfl⟩)
          | (go_at_call 37; (with_reducible refine (HX.out _ (by repeat (first | with_reducible exact hs | with_reducible refine Sl.over ?_ _ | with_reducible refine Sl.alloc ?_ _ | with_reducible refine Sl.drew ?_ | exact hs))).mono ?_); rintro _ _ ⟨⟨e2, rfl⟩, v2, rfl, o2⟩; obtain ⟨a2, c2, rfl, s2⟩ := Own.slice Sp.cs_len o2; clear o2)
          | (go_at_call 37; (with_reducible refine (HY.out _ (by repeat (first | with_reducible exact hs' | with_reducible refine Sl.over ?_ _ | with_reducible refine Sl.alloc ?_ _ | with_reducible refine Sl.drew ?_ | exact hs'))).mono ?_); rintro _ _ ⟨⟨e3, rfl⟩, v3, rfl, o3⟩; obtain ⟨a3, c3, rfl, s3⟩ := Own.slice Sp.cs_len o3; clear o3)
          | (go_at_call 44; (with_reducible refine (HM.out _ _ _ _ _ (by repeat (first | with_reducible exact s2 | with_reducible refine Sl.over ?_ _ | with_reducible refine Sl.alloc ?_ _ | with_reducible refine Sl.drew ?_ | exact s2)) (by repeat (first | with_reducible exact s3 | with_reducible refine Sl.over ?_ _ | with_reducible refine Sl.alloc ?_ _ | with_reducible refine Sl.drew ?_ | exact s3))).mono ?_); rintro _ _ ⟨⟨e4, rfl⟩, v4, rfl, o4⟩; obtain ⟨a4, c4, rfl, s4⟩ := Own.slice Sp.cs_len o4; clear o4))
        generalize hW : over (over (over _ e2) e3) e4 = W at *
        have oW : Ov w W := by rw [← hW]; exact (by (try unfold Ov); repeat (first | with_reducible exact ex_over | with_reducible exact over_self _ | with_reducible refine ex_into ?_ _ | with_reducible refine ex_alloc ?_ _ | with_reducible refine ex_drew ?_ | ((with_reducible refine ex_setCell ?_ ?_ _); rotate_left; (first | omega | (simp; done) | (simp; omega))) | exact ex_over))
        have s2 : SlS W a2 c2 x := by rw [← hW]; exact (by repeat (first | with_reducible exact s2 | with_reducible refine Sl.over ?_ _ | with_reducible refine Sl.alloc ?_ _ | with_reducible refine Sl.drew ?_ | exact s2))
        have s3 : SlS W a3 c3 y := by rw [← hW]; exact (by repeat (first | with_reducible exact s3 | with_reducible refine Sl.over ?_ _ | with_reducible refine Sl.alloc ?_ _ | with_reducible refine Sl.drew ?_ | exact s3))
        clear HX HY HM hs hs' HK hW
        go_loopw [11, 12] (fun al i wr => ∃ (k : Nat) (zs : List Sp) (aa : Option Addr) (cc : Nat), k ≤ y.length ∧ i = .int .i64 k ∧ al = .slice aa zs.length cc ∧ Ov W wr ∧ SlS wr aa cc zs ∧ Hid (zs = allS x (y.take k))) (fun _ i _ => y.length - (intOf i).toNat)
        case atStart => exact ⟨0, x, a2, c2, Nat.zero_le _, rfl, rfl, over_self _, s2, hid rfl⟩
        case round =>
          obtain ⟨k, zs, aa, cc, hk, rfl, rfl, ⟨e, rfl⟩, hsz, hzs⟩ := hrel
          by_cases hlt : k < y.length
          · obtain ⟨b, off, rfl, hb, c0, c1⟩ := s3.at_ hlt
            obtain ⟨z1, z2, z3⟩ := Ht.out k
            rw [← hzs.out] at z1 z2 z3
            have hyk := Hy.out _ (List.getElem_mem hlt)
            have HA := hid (fun a c W h => add_any zs z2 y[k] hyk.2 a c W h (by omega))
            rw [okSp_iff.2 ⟨z1, hyk.1⟩] at HA
            clear z1 z2 hyk
            go_wp2_with (go_at_call 32; (with_reducible refine (HA.out _ _ _ (by repeat (first | with_reducible exact hsz | with_reducible refine Sl.over ?_ _ | with_reducible refine Sl.alloc ?_ _ | with_reducible refine Sl.drew ?_ | exact hsz))).mono ?_); rintro _ _ ⟨⟨e5, rfl⟩, v5, rfl, o5⟩; obtain ⟨a5, c5, rfl, s5⟩ := Own.slice Sp.cs_len o5; clear o5)
            go_roundw
            case rel => exact ⟨k + 1, _, _, _, by omega, by go_num, rfl, (by (try unfold Ov); repeat (first | with_reducible exact ex_over | with_reducible exact over_self _ | with_reducible refine ex_into ?_ _ | with_reducible refine ex_alloc ?_ _ | with_reducible refine ex_drew ?_ | ((with_reducible refine ex_setCell ?_ ?_ _); rotate_left; (first | omega | (simp; done) | (simp; omega))) | exact ex_over)), s5, hid (by rw [allS_snoc hlt, ← hzs.out])⟩
            case measure => (simp [intOf]; try omega)
          · have hz : zs = u := by rw [hzs.out, Hu.out, List.take_of_length_le (by omega)]
            subst hz
            clear hzs Hu
            go_wp2_with (first
              | (go_at_call 38; (with_reducible refine (HC1.out a2 _ _ (by repeat (first | with_reducible exact s2 | with_reducible refine Sl.over ?_ _ | with_reducible refine Sl.alloc ?_ _ | with_reducible refine Sl.drew ?_ | exact s2))).mono ?_); rintro _ _ ⟨⟨e6, rfl⟩, rfl⟩)
              | (go_at_call 38; (with_reducible refine (HC2.out a3 _ _ (by repeat (first | with_reducible exact s3 | with_reducible refine Sl.over ?_ _ | with_reducible refine Sl.alloc ?_ _ | with_reducible refine Sl.drew ?_ | exact s3))).mono ?_); rintro _ _ ⟨⟨e7, rfl⟩, rfl⟩)
              | (go_at_call 38; (with_reducible refine (HC3.out a4 _ _ (by repeat (first | with_reducible exact s4 | with_reducible refine Sl.over ?_ _ | with_reducible refine Sl.alloc ?_ _ | with_reducible refine Sl.drew ?_ | exact s4))).mono ?_); rintro _ _ ⟨⟨e8, rfl⟩, rfl⟩)
              | (go_at_call 38; (with_reducible refine (HC4.out aa _ _ (by repeat (first | with_reducible exact hsz | with_reducible refine Sl.over ?_ _ | with_reducible refine Sl.alloc ?_ _ | with_reducible refine Sl.drew ?_ | exact hsz))).mono ?_); rintro _ _ ⟨⟨e9, rfl⟩, rfl⟩)
              | (go_at_call 42; (with_reducible refine (HH1.out a2 _ _ (by repeat (first | with_reducible exact s2 | with_reducible refine Sl.over ?_ _ | with_reducible refine Sl.alloc ?_ _ | with_reducible refine Sl.drew ?_ | exact s2))).mono ?_); rintro _ _ ⟨⟨e10, rfl⟩, rfl⟩)
              | (go_at_call 42; (with_reducible refine (HH2.out a3 _ _ (by repeat (first | with_reducible exact s3 | with_reducible refine Sl.over ?_ _ | with_reducible refine Sl.alloc ?_ _ | with_reducible refine Sl.drew ?_ | exact s3))).mono ?_); rintro _ _ ⟨⟨e11, rfl⟩, rfl⟩)
              | (go_at_call 42; (with_reducible refine (HH3.out a4 _ _ (by repeat (first | with_reducible exact s4 | with_reducible refine Sl.over ?_ _ | with_reducible refine Sl.alloc ?_ _ | with_reducible refine Sl.drew ?_ | exact s4))).mono ?_); rintro _ _ ⟨⟨e12, rfl⟩, rfl⟩)
              | (go_at_call 42; (with_reducible refine (HH4.out aa _ _ (by repeat (first | with_reducible exact hsz | with_reducible refine Sl.over ?_ _ | with_reducible refine Sl.alloc ?_ _ | with_reducible refine Sl.drew ?_ | exact hsz))).mono ?_); rintro _ _ ⟨⟨e13, rfl⟩, rfl⟩)
              | (go_at_call 40; (with_reducible refine (HSm.out _ _ _ (by repeat (first | with_reducible exact s4 | with_reducible refine Sl.over ?_ _ | with_reducible refine Sl.alloc ?_ _ | with_reducible refine Sl.drew ?_ | exact s4))).mono ?_); rintro _ _ ⟨⟨e14, rfl⟩, rfl⟩))
            all_goals (go_ret; exact ⟨over_trans oW (by (try unfold Ov); repeat (first | with_reducible exact ex_over | with_reducible exact over_self _ | with_reducible refine ex_into ?_ _ | with_reducible refine ex_alloc ?_ _ | with_reducible refine ex_drew ?_ | ((with_reducible refine ex_setCell ?_ ?_ _); rotate_left; (first | omega | (simp; done) | (simp; omega))) | exact ex_over)), rfl⟩)
    · have hlt : 15 < ys.length := of_decide_eq_true hl'
      go_enter Try.func14, Try.ntmps14
      go_wp2_with (go_at_call 30; (with_reducible refine (HK.out _).mono ?_); rintro _ _ ⟨⟨e1, rfl⟩, rfl⟩)
      all_goals (go_ret; exact ⟨(by (try unfold Ov); repeat (first | with_reducible exact ex_over | with_reducible exact over_self _ | with_reducible refine ex_into ?_ _ | with_reducible refine ex_alloc ?_ _ | with_reducible refine ex_drew ?_ | ((with_reducible refine ex_setCell ?_ ?_ _); rotate_left; (first | omega | (simp; done) | (simp; omega))) | exact ex_over)), rfl⟩)
  · have hlt : 15 < xs.length := of_decide_eq_true hl
    go_enter Try.func14, Try.ntmps14
    go_wp2_with (go_at_call 30; (with_reducible refine (HK.out _).mono ?_); rintro _ _ ⟨⟨e1, rfl⟩, rfl⟩)
    go_ret
    exact ⟨(by (try unfold Ov); repeat (first | with_reducible exact ex_over | with_reducible exact over_self _ | with_reducible refine ex_into ?_ _ | with_reducible refine ex_alloc ?_ _ | with_reducible refine ex_drew ?_ | ((with_reducible refine ex_setCell ?_ ?_ _); rotate_left; (first | omega | (simp; done) | (simp; omega))) | exact ex_over)), rfl⟩

namespace spanCounts
open Go.ChangeShapes Go.WideShapes Go.ChangeAt
set_option maxRecDepth 100000 in
theorem lifted (os : Os) (started : os.Started) (H : Type) (enc : TypeId × Value → H) :
    ReturnsInHanded {} Try.checked os 14 .any (Rows.spanCountsSpec.pre6 enc Try.prog Try.f14 Rows.spanCountsRow.domain false) (Rows.spanCountsSpec.post enc Try.prog Try.f14 false true false false) := by
  refine returnsInHanded_of_change (C := Try.checked) ownKnob0 started (by kernel_rfl) Try.func14
    (ChangeSpec.witness6 (enc := enc) (C := Try.checked) false ⟨#[], #[.slice none 0 0, .slice none 0 0, .int .i64 0], []⟩ 8 (by kernel_rfl) (by kernel_rfl) (by kernel_rfl) (by kernel_rfl)) ?_
  intro W base args ds gs before hval0 hW hcnd _
  have hval : ∀ (j : Nat) t v, Try.f14.params[j]? = some t → args[j]? = some v → Value.okWide Try.prog W .any base t v := hval0
  have hW' := hW
  obtain ⟨p, q, hA0, hV, rfl, hfz, hnd⟩ := hW
  have hA : DataW.TrodAll enc Try.prog W 0 (fun _ => true) true Try.f14.params.toList args.toList ds p := hA0
  rw [Try.params14] at hA hval
  obtain ⟨v0, vs0, d0, ds0, p0, q0, hargs, rfl, rfl, h0, r0⟩ := trodAll_cons hA
  obtain ⟨v1, vs1, d1, ds1, p1, q1, rfl, rfl, rfl, h1, r1⟩ := trodAll_cons r0
  obtain ⟨v2, vs2, d2, ds2, p2, q2, rfl, rfl, rfl, h2, r2⟩ := trodAll_cons r1
  obtain ⟨rfl, rfl, rfl⟩ := trodAll_nil r2
  obtain rfl : args = #[v0, v1, v2] := by cases args; simp_all
  obtain ⟨rfl, rfl⟩ := trodVars_none hV
  have lt0 : ∀ x ∈ p0, x.block < W.heap.size := by obtain ⟨m, hm⟩ := h0; exact DataW.trod_lt m _ _ _ hm
  have k0 := h0
  obtain ⟨a0, n0, c0, rfl⟩ := okWide_slice Try.underlying51 (hval 0 51 v0 rfl rfl)
  obtain ⟨x0, rfl, s0, w0⟩ := open_spans h0
  have lt1 : ∀ x ∈ p1, x.block < W.heap.size := by obtain ⟨m, hm⟩ := h1; exact DataW.trod_lt m _ _ _ hm
  have k1 := h1
  obtain ⟨a1, n1, c1, rfl⟩ := okWide_slice Try.underlying51 (hval 1 51 v1 rfl rfl)
  obtain ⟨x1, rfl, s1, w1⟩ := open_spans h1
  have lt2 : ∀ x ∈ p2, x.block < W.heap.size := by obtain ⟨m, hm⟩ := h2; exact DataW.trod_lt m _ _ _ hm
  have k2 := h2
  obtain ⟨x2, rfl, _, _, w2⟩ := open_int Try.underlying2 (hval 2 2 v2 rfl rfl) h2
  clear hA0 hval0
  refine (spanCounts_any x0 w0 a0 c0 x1 w1 a1 c1 x2 w2 W s0 s1).mono fun e W' ⟨bel, he⟩ => ?_
  have bel := below_of_over bel
  subst he
  exact ⟨_, rfl, _, _, _, [], _, [], hW', trodAll_mk1 (shut_bool Try.underlying4 _), (trodAll_cons_mk (Below.trod laidOut0 (by kernel_rfl) (of_decide_eq_true (by kernel_rfl)) k0 bel lt0) (trodAll_cons_mk (Below.trod laidOut0 (by kernel_rfl) (of_decide_eq_true (by kernel_rfl)) k1 bel lt1) (trodAll_cons_mk (Below.trod laidOut0 (by kernel_rfl) (of_decide_eq_true (by kernel_rfl)) k2 bel lt2) trodAll_mk0))), rfl, bel.frame _, fun h => by cases h⟩

theorem over : Rows.spanCountsRow.holds Try.pinned (OpenSpec.ofChange Rows.spanCountsSpec) :=
  OpenClaim.holds_of_wide 14 Try.f14 rfl rfl rfl rfl rfl rfl rfl ⟨rfl, rfl, rfl, rfl, rfl⟩ rfl rfl rfl rfl rfl (by kernel_rfl) Try.func14 (by kernel_rfl)
    (of_decide_eq_true (by kernel_rfl)) (by unfold Func.isWrapper; first | (rw [if_pos (by decide +kernel)]; kernel_rfl) | (rw [if_neg (by decide +kernel)]; exact ⟨rfl, rfl⟩))
    (fun os started H enc _ => lifted os started H enc)

theorem proved : Rows.SpanCountsSaid := over
end spanCounts
end Go.Proofs.Ytbkekpfancbemaa
