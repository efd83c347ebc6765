/- The law SpanTurns holds: for every list of spans and every span the call returns true, and the arguments read as they did. -/
import Derived.Test.YtbkekpfancbemaaSpanO
import Derived.Test.YtbkekpfancbemaaSpanT
namespace Go.Proofs.Ytbkekpfancbemaa
set_option linter.unusedVariables false
set_option linter.unusedSimpArgs false
open Go.RowKit

set_option maxRecDepth 100000 in
set_option maxHeartbeats 4000000 in
theorem spanTurns_any (xs : List Sp) (hwf : ∀ x ∈ xs, x.wf) (a : Option Addr) (cap : Nat) (s : Sp) (hsw : s.wf) (w : World) (hs : SlS w a cap xs) :
    Calls Try.prog 12 #[.slice a xs.length cap, s.v] w (Ret w (.bool true)) := by
  have hmax := len_max hs
  have HK := hid known_any
  unfold Sp.v
  cases hl : decide (30 < xs.length)
  · have hle : xs.length ≤ 30 := by have := of_decide_eq_false hl; omega
    clear hl
    have HX := hid (fun W h => set_any xs hwf a cap W h (by omega))
    obtain ⟨p1, p2, p3⟩ := setS_spec hwf
    have p4 := setS_len xs
    obtain ⟨x, hx⟩ : ∃ x, x = setS xs := ⟨_, rfl⟩
    rw [← hx] at HX p1 p2 p3 p4
    obtain ⟨M, hM⟩ : ∃ M, M = turned s := ⟨_, rfl⟩
    have q1 := turned_le s
    have q2 := turned_wf hsw
    have e1 : (if s.t < s.f then s.t else s.f) = M.f := by rw [hM]; rfl
    have e2 : (if s.f < s.t then s.t else s.f) = M.t := by rw [hM]; rfl
    rw [← hM] at q1 q2
    clear hM hx p3
    have ok := okSp_iff.2 ⟨p1, q1⟩
    obtain ⟨a1, a2⟩ := addS_spec p1 q1
    obtain ⟨d1, d2⟩ := dropS_spec p1 q1
    have ok2 := okSp_iff.2 ⟨a1, q1⟩
    have ok3 := okSp_iff.2 ⟨d1, q1⟩
    have HA := hid (fun a c W h => add_any x p2 M q2 a c W h (by omega))
    have HD := hid (fun a c W h => drop_any x p2 M q2 a c W h (by omega))
    rw [ok] at HA HD
    have aw := addS_wf p2 q2
    have dw := dropS_wf p2 q2
    have l1 := addS_len x M
    have l2 := dropS_len x M
    have t1 := turn_1 p1 q1
    have t2 := turn_2 p1 q1
    have t3 := turn_3 p1 q1
    have b1 := (soundB_PW _).2 d1
    have b2 : soundB [M] = true := (soundB_PW _).2 ⟨by simpa using q1, by simp⟩
    generalize addS x M = u at *
    generalize dropS x M = d at *
    have HA2 := hid (fun a c W h => add_any d dw M q2 a c W h (by omega))
    have HD2 := hid (fun a c W h => drop_any u aw M q2 a c W h (by omega))
    have HM : Hid (∀ a c b c' W, SlS W a c d → SlS W b c' [M] → Calls Try.prog 44 #[.slice a d.length c, .slice b 1 c'] W (SpRes .u16 0 [] W)) := fun a c b c' W h h' => by
      have k := meet_any d [M] dw (by simpa using q2) a b c c' W h h' (by omega) (by simp)
      unfold MeetRes at k
      rw [b1, b2, t3] at k
      exact k
    have HN : Hid (∀ (W : World) (n : Nat), n = W.heap.size → SlS (W.alloc (.cells #[.int .i64 M.f, .int .i64 M.t] 53)) (some ⟨n, 0, none⟩) 1 [M]) := fun W n hn => Sl.lit_new (xs := [M]) Sp.cs_len hn (by unfold maxLen; simp)
    rw [ok3, t1] at HA2
    rw [ok2, t2] at HD2
    have HS1 := hid (fun a b c d W h h' => same_any u u a b c d W h h')
    have HS2 := hid (fun a b c d' W h h' => same_any d d a b c d' W h h')
    rw [decide_eq_true rfl] at HS1 HS2
    clear b1 b2 t1 t2 t3 a1 a2 d1 d2 p1 ok ok2 ok3 aw dw
    go_enter Try.func12, Try.ntmps12
    go_wp2_with (first
      | (go_at_call 30; (with_reducible refine (HK.out _).mono ?_); rintro _ _ ⟨⟨e1, rfl⟩, rfl⟩)
      | (go_at_call 37; (with_reducible refine (HX.out _ (by repeat (first | with_reducible exact hs | with_reducible refine Sl.over ?_ _ | with_reducible refine Sl.alloc ?_ _ | with_reducible refine Sl.drew ?_ | exact hs))).mono ?_); rintro _ _ ⟨⟨e2, rfl⟩, v2, rfl, o2⟩; obtain ⟨a2, c2, rfl, s2⟩ := Own.slice Sp.cs_len o2; clear o2)
      | (go_at_call 32; (with_reducible refine (HA.out _ _ _ (by repeat (first | with_reducible exact s2 | with_reducible refine Sl.over ?_ _ | with_reducible refine Sl.alloc ?_ _ | with_reducible refine Sl.drew ?_ | exact s2))).mono ?_); rintro _ _ ⟨⟨e3, rfl⟩, v3, rfl, o3⟩; obtain ⟨a3, c3, rfl, s3⟩ := Own.slice Sp.cs_len o3; clear o3)
      | (go_at_call 34; (with_reducible refine (HD.out _ _ _ (by repeat (first | with_reducible exact s2 | with_reducible refine Sl.over ?_ _ | with_reducible refine Sl.alloc ?_ _ | with_reducible refine Sl.drew ?_ | exact s2))).mono ?_); rintro _ _ ⟨⟨e4, rfl⟩, v4, rfl, o4⟩; obtain ⟨a4, c4, rfl, s4⟩ := Own.slice Sp.cs_len o4; clear o4)
      | (go_at_call 32; (with_reducible refine (HA2.out _ _ _ (by repeat (first | with_reducible exact s4 | with_reducible refine Sl.over ?_ _ | with_reducible refine Sl.alloc ?_ _ | with_reducible refine Sl.drew ?_ | exact s4))).mono ?_); rintro _ _ ⟨⟨e5, rfl⟩, v5, rfl, o5⟩; obtain ⟨a5, c5, rfl, s5⟩ := Own.slice Sp.cs_len o5; clear o5)
      | (go_at_call 34; (with_reducible refine (HD2.out _ _ _ (by repeat (first | with_reducible exact s3 | with_reducible refine Sl.over ?_ _ | with_reducible refine Sl.alloc ?_ _ | with_reducible refine Sl.drew ?_ | exact s3))).mono ?_); rintro _ _ ⟨⟨e6, rfl⟩, v6, rfl, o6⟩; obtain ⟨a6, c6, rfl, s6⟩ := Own.slice Sp.cs_len o6; clear o6)
      | (go_at_call 44; (with_reducible refine (HM.out _ _ _ _ _ (by repeat (first | with_reducible exact s4 | with_reducible refine Sl.over ?_ _ | with_reducible refine Sl.alloc ?_ _ | with_reducible refine Sl.drew ?_ | exact s4)) (HN.out _ _ (by simp))).mono ?_); rintro _ _ ⟨⟨e7, rfl⟩, v7, rfl, o7⟩; obtain ⟨a7, c7, rfl, s7⟩ := Own.slice Sp.cs_len o7; clear o7)
      | (go_at_call 36; (with_reducible refine (HS1.out _ _ _ _ _ (by repeat (first | with_reducible exact s3 | with_reducible refine Sl.over ?_ _ | with_reducible refine Sl.alloc ?_ _ | with_reducible refine Sl.drew ?_ | exact s3)) (by repeat (first | with_reducible exact s5 | with_reducible refine Sl.over ?_ _ | with_reducible refine Sl.alloc ?_ _ | with_reducible refine Sl.drew ?_ | exact s5))).mono ?_); rintro _ _ ⟨⟨e8, rfl⟩, rfl⟩)
      | (go_at_call 36; (with_reducible refine (HS2.out _ _ _ _ _ (by repeat (first | with_reducible exact s4 | with_reducible refine Sl.over ?_ _ | with_reducible refine Sl.alloc ?_ _ | with_reducible refine Sl.drew ?_ | exact s4)) (by repeat (first | with_reducible exact s6 | with_reducible refine Sl.over ?_ _ | with_reducible refine Sl.alloc ?_ _ | with_reducible refine Sl.drew ?_ | exact s6))).mono ?_); rintro _ _ ⟨⟨e9, rfl⟩, rfl⟩))
    go_ret
    exact ⟨(by (try unfold Ov); repeat (first | with_reducible exact ex_over | with_reducible exact over_self _ | with_reducible refine ex_into ?_ _ | with_reducible refine ex_alloc ?_ _ | with_reducible refine ex_drew ?_ | ((with_reducible refine ex_setCell ?_ ?_ _); rotate_left; (first | omega | (simp; done) | (simp; omega))) | exact ex_over)), rfl⟩
  · have hlt : 30 < xs.length := of_decide_eq_true hl
    go_enter Try.func12, Try.ntmps12
    go_wp2_with (go_at_call 30; (with_reducible refine (HK.out _).mono ?_); rintro _ _ ⟨⟨e1, rfl⟩, rfl⟩)
    go_ret
    exact ⟨(by (try unfold Ov); repeat (first | with_reducible exact ex_over | with_reducible exact over_self _ | with_reducible refine ex_into ?_ _ | with_reducible refine ex_alloc ?_ _ | with_reducible refine ex_drew ?_ | ((with_reducible refine ex_setCell ?_ ?_ _); rotate_left; (first | omega | (simp; done) | (simp; omega))) | exact ex_over)), rfl⟩

namespace spanTurns
open Go.ChangeShapes Go.WideShapes Go.ChangeAt
set_option maxRecDepth 100000 in
theorem lifted (os : Os) (started : os.Started) (H : Type) (enc : TypeId × Value → H) :
    ReturnsInHanded {} Try.checked os 12 .any (Rows.spanTurnsSpec.pre6 enc Try.prog Try.f12 Rows.spanTurnsRow.domain false) (Rows.spanTurnsSpec.post enc Try.prog Try.f12 false true false false) := by
  refine returnsInHanded_of_change (C := Try.checked) ownKnob0 started (by kernel_rfl) Try.func12
    (ChangeSpec.witness6 (enc := enc) (C := Try.checked) false ⟨#[], #[.slice none 0 0, .agg #[.int .i64 0, .int .i64 0]], []⟩ 8 (by kernel_rfl) (by kernel_rfl) (by kernel_rfl) (by kernel_rfl)) ?_
  intro W base args ds gs before hval0 hW hcnd _
  have hval : ∀ (j : Nat) t v, Try.f12.params[j]? = some t → args[j]? = some v → Value.okWide Try.prog W .any base t v := hval0
  have hW' := hW
  obtain ⟨p, q, hA0, hV, rfl, hfz, hnd⟩ := hW
  have hA : DataW.TrodAll enc Try.prog W 0 (fun _ => true) true Try.f12.params.toList args.toList ds p := hA0
  rw [Try.params12] at hA hval
  obtain ⟨v0, vs0, d0, ds0, p0, q0, hargs, rfl, rfl, h0, r0⟩ := trodAll_cons hA
  obtain ⟨v1, vs1, d1, ds1, p1, q1, rfl, rfl, rfl, h1, r1⟩ := trodAll_cons r0
  obtain ⟨rfl, rfl, rfl⟩ := trodAll_nil r1
  obtain rfl : args = #[v0, v1] := by cases args; simp_all
  obtain ⟨rfl, rfl⟩ := trodVars_none hV
  have lt0 : ∀ x ∈ p0, x.block < W.heap.size := by obtain ⟨m, hm⟩ := h0; exact DataW.trod_lt m _ _ _ hm
  have k0 := h0
  obtain ⟨a0, n0, c0, rfl⟩ := okWide_slice Try.underlying51 (hval 0 51 v0 rfl rfl)
  obtain ⟨x0, rfl, s0, w0⟩ := open_spans h0
  have lt1 : ∀ x ∈ p1, x.block < W.heap.size := by obtain ⟨m, hm⟩ := h1; exact DataW.trod_lt m _ _ _ hm
  have k1 := h1
  obtain ⟨x1, w1, rfl⟩ := open_span (hval 1 53 v1 rfl rfl) h1
  clear hA0 hval0
  refine (spanTurns_any x0 w0 a0 c0 x1 w1 W s0).mono fun e W' ⟨bel, he⟩ => ?_
  have bel := below_of_over bel
  subst he
  exact ⟨_, rfl, _, _, _, [], _, [], hW', trodAll_mk1 (shut_bool Try.underlying4 _), (trodAll_cons_mk (Below.trod laidOut0 (by kernel_rfl) (of_decide_eq_true (by kernel_rfl)) k0 bel lt0) (trodAll_cons_mk (Below.trod laidOut0 (by kernel_rfl) (of_decide_eq_true (by kernel_rfl)) k1 bel lt1) trodAll_mk0)), rfl, bel.frame _, fun h => by cases h⟩

theorem over : Rows.spanTurnsRow.holds Try.pinned (OpenSpec.ofChange Rows.spanTurnsSpec) :=
  OpenClaim.holds_of_wide 12 Try.f12 rfl rfl rfl rfl rfl rfl rfl ⟨rfl, rfl, rfl, rfl, rfl⟩ rfl rfl rfl rfl rfl (by kernel_rfl) Try.func12 (by kernel_rfl)
    (of_decide_eq_true (by kernel_rfl)) (by unfold Func.isWrapper; first | (rw [if_pos (by decide +kernel)]; kernel_rfl) | (rw [if_neg (by decide +kernel)]; exact ⟨rfl, rfl⟩))
    (fun os started H enc _ => lifted os started H enc)

theorem proved : Rows.SpanTurnsSaid := over
end spanTurns
end Go.Proofs.Ytbkekpfancbemaa
