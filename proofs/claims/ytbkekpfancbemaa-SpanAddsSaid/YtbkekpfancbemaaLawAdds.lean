/- The law SpanAdds holds: for every list of spans and every span the call returns true, and the arguments read as they did. -/
import Derived.Test.YtbkekpfancbemaaSpanO
import Derived.Test.YtbkekpfancbemaaSpanE
namespace Go.Proofs.Ytbkekpfancbemaa
open Go.RowKit

set_option maxRecDepth 100000 in
set_option maxHeartbeats 4000000 in
theorem spanAdds_any (xs : List Sp) (hwf : ∀ x ∈ xs, x.wf) (s : Sp) (hsw : s.wf) (a : Option Addr) (cap : Nat) (w : World) (hs : SlS w a cap xs) :
    Calls Try.prog 8 #[.slice a xs.length cap, s.v] w (Ret w (.bool true)) := by
  have hmax := len_max hs
  have HK := hid known_any
  unfold Sp.v
  cases hl : decide (40 < xs.length)
  · have hle : xs.length ≤ 40 := by have := of_decide_eq_false hl; omega
    have HLe := hid (lent_any xs)
    have HA := hid (fun a c W h => add_any xs hwf s hsw a c W h (by omega))
    have HR := hid (fun a c W h => radd_any xs hwf s a c W h (by omega))
    have HD := hid (fun a c W h => drop_any xs hwf s hsw a c W h (by omega))
    have HE := hid (fun a c W h => rdrop_any xs hwf s hsw a c W h (by omega))
    rw [← add_same hwf hsw] at HR
    rw [← drop_same] at HE
    have l1 : (addS xs s).length ≤ 100 := by have := addS_len xs s; omega
    have l2 : (dropS xs s).length ≤ 200 := by have := dropS_len xs s; omega
    obtain ⟨us, has⟩ : ∃ us, us = addS xs s := ⟨_, rfl⟩
    obtain ⟨ds, hds⟩ : ∃ ds, ds = dropS xs s := ⟨_, rfl⟩
    rw [← has] at HA HR l1
    rw [← hds] at HD HE l2
    obtain ⟨c, hc⟩ : ∃ c, c = okN (okSp xs s) := ⟨_, rfl⟩
    rw [← hc] at HA HR HD HE
    have hc01 : 0 ≤ c ∧ c ≤ 1 := by rw [hc]; unfold okN; split <;> omega
    clear has hds hc
    have HS1 := hid (fun a b c d W h h' => same_any us us a b c d W h h')
    have HS2 := hid (fun a b c d W h h' => same_any ds ds a b c d W h h')
    have HS3 := hid (fun a b c d W h h' => same_any xs xs a b c d W h h')
    rw [decide_eq_true rfl] at HS1 HS2 HS3
    go_enter Try.func8, Try.ntmps8
    go_wp2_with (first
      | (go_at_call 30; (with_reducible refine (HK.out _).mono ?_); rintro _ _ ⟨⟨e1, rfl⟩, rfl⟩)
      | (go_at_call 31; (with_reducible refine (HLe.out _ _ _ (by repeat (first | with_reducible exact hs | with_reducible refine Sl.over ?_ _ | with_reducible refine Sl.alloc ?_ _ | with_reducible refine Sl.drew ?_ | exact hs)) (by omega)).mono ?_); rintro _ _ ⟨⟨e2, rfl⟩, v2, rfl, o2⟩; obtain ⟨a2, c2, rfl, s2⟩ := Own.slice Sp.cs_len o2; clear o2)
      | (go_at_call 32; (with_reducible refine (HA.out _ _ _ s2).mono ?_); rintro _ _ ⟨⟨e3, rfl⟩, v3, rfl, o3⟩; obtain ⟨a3, c3, rfl, s3⟩ := Own.slice Sp.cs_len o3; clear o3)
      | (go_at_call 33; (with_reducible refine (HR.out _ _ _ (by repeat (first | with_reducible exact hs | with_reducible refine Sl.over ?_ _ | with_reducible refine Sl.alloc ?_ _ | with_reducible refine Sl.drew ?_ | exact hs))).mono ?_); rintro _ _ ⟨⟨e4, rfl⟩, v4, rfl, o4⟩; obtain ⟨a4, c4, rfl, s4⟩ := Own.slice Sp.cs_len o4; clear o4)
      | (go_at_call 34; (with_reducible refine (HD.out _ _ _ (by repeat (first | with_reducible exact s2 | with_reducible refine Sl.over ?_ _ | with_reducible refine Sl.alloc ?_ _ | with_reducible refine Sl.drew ?_ | exact s2))).mono ?_); rintro _ _ ⟨⟨e5, rfl⟩, v5, rfl, o5⟩; obtain ⟨a5, c5, rfl, s5⟩ := Own.slice Sp.cs_len o5; clear o5)
      | (go_at_call 35; (with_reducible refine (HE.out _ _ _ (by repeat (first | with_reducible exact hs | with_reducible refine Sl.over ?_ _ | with_reducible refine Sl.alloc ?_ _ | with_reducible refine Sl.drew ?_ | exact hs))).mono ?_); rintro _ _ ⟨⟨e6, rfl⟩, v6, rfl, o6⟩; obtain ⟨a6, c6, rfl, s6⟩ := Own.slice Sp.cs_len o6; clear o6)
      | (go_at_call 36; (with_reducible refine (HS1.out _ _ _ _ _ (by repeat (first | with_reducible exact s3 | with_reducible refine Sl.over ?_ _ | with_reducible refine Sl.alloc ?_ _ | with_reducible refine Sl.drew ?_ | exact s3)) (by repeat (first | with_reducible exact s4 | with_reducible refine Sl.over ?_ _ | with_reducible refine Sl.alloc ?_ _ | with_reducible refine Sl.drew ?_ | exact s4))).mono ?_); rintro _ _ ⟨⟨e7, rfl⟩, rfl⟩)
      | (go_at_call 36; (with_reducible refine (HS2.out _ _ _ _ _ (by repeat (first | with_reducible exact s5 | with_reducible refine Sl.over ?_ _ | with_reducible refine Sl.alloc ?_ _ | with_reducible refine Sl.drew ?_ | exact s5)) (by repeat (first | with_reducible exact s6 | with_reducible refine Sl.over ?_ _ | with_reducible refine Sl.alloc ?_ _ | with_reducible refine Sl.drew ?_ | exact s6))).mono ?_); rintro _ _ ⟨⟨e8, rfl⟩, rfl⟩)
      | (go_at_call 36; (with_reducible refine (HS3.out _ _ _ _ _ (by repeat (first | with_reducible exact s2 | with_reducible refine Sl.over ?_ _ | with_reducible refine Sl.alloc ?_ _ | with_reducible refine Sl.drew ?_ | exact s2)) (by repeat (first | with_reducible exact hs | with_reducible refine Sl.over ?_ _ | with_reducible refine Sl.alloc ?_ _ | with_reducible refine Sl.drew ?_ | exact hs))).mono ?_); rintro _ _ ⟨⟨e9, rfl⟩, rfl⟩))
    go_ret
    exact ⟨(by (try unfold Ov); repeat (first | with_reducible exact ex_over | with_reducible exact over_self _ | with_reducible refine ex_into ?_ _ | with_reducible refine ex_alloc ?_ _ | with_reducible refine ex_drew ?_ | ((with_reducible refine ex_setCell ?_ ?_ _); rotate_left; (first | omega | (simp; done) | (simp; omega))))), rfl⟩
  · have hlt : 40 < xs.length := of_decide_eq_true hl
    go_enter Try.func8, Try.ntmps8
    go_wp2_with (go_at_call 30; (with_reducible refine (HK.out _).mono ?_); rintro _ _ ⟨⟨e1, rfl⟩, rfl⟩)
    go_ret
    exact ⟨(by (try unfold Ov); repeat (first | with_reducible exact ex_over | with_reducible exact over_self _ | with_reducible refine ex_into ?_ _ | with_reducible refine ex_alloc ?_ _ | with_reducible refine ex_drew ?_ | ((with_reducible refine ex_setCell ?_ ?_ _); rotate_left; (first | omega | (simp; done) | (simp; omega))))), rfl⟩

namespace spanAdds
open Go.ChangeShapes Go.WideShapes Go.ChangeAt
set_option maxRecDepth 100000 in
theorem lifted (os : Os) (started : os.Started) (H : Type) (enc : TypeId × Value → H) :
    ReturnsInHanded {} Try.checked os 8 .any (Rows.spanAddsSpec.pre6 enc Try.prog Try.f8 Rows.spanAddsRow.domain false) (Rows.spanAddsSpec.post enc Try.prog Try.f8 false true false false) := by
  refine returnsInHanded_of_change (C := Try.checked) ownKnob0 started (by kernel_rfl) Try.func8
    (ChangeSpec.witness6 (enc := enc) (C := Try.checked) false ⟨#[], #[.slice none 0 0, .agg #[.int .i64 0, .int .i64 0]], []⟩ 8 (by kernel_rfl) (by kernel_rfl) (by kernel_rfl) (by kernel_rfl)) ?_
  intro W base args ds gs before hval0 hW hcnd _
  have hval : ∀ (j : Nat) t v, Try.f8.params[j]? = some t → args[j]? = some v → Value.okWide Try.prog W .any base t v := hval0
  have hW' := hW
  obtain ⟨p, q, hA0, hV, rfl, hfz, hnd⟩ := hW
  have hA : DataW.TrodAll enc Try.prog W 0 (fun _ => true) true Try.f8.params.toList args.toList ds p := hA0
  rw [Try.params8] at hA hval
  obtain ⟨v0, vs0, d0, ds0, p0, q0, hargs, rfl, rfl, h0, r0⟩ := trodAll_cons hA
  obtain ⟨v1, vs1, d1, ds1, p1, q1, rfl, rfl, rfl, h1, r1⟩ := trodAll_cons r0
  obtain ⟨rfl, rfl, rfl⟩ := trodAll_nil r1
  obtain rfl : args = #[v0, v1] := by cases args; simp_all
  obtain ⟨rfl, rfl⟩ := trodVars_none hV
  have lt0 : ∀ x ∈ p0, x.block < W.heap.size := by obtain ⟨m, hm⟩ := h0; exact DataW.trod_lt m _ _ _ hm
  have lt1 : ∀ x ∈ p1, x.block < W.heap.size := by obtain ⟨m, hm⟩ := h1; exact DataW.trod_lt m _ _ _ hm
  have k0 := h0
  have k1 := h1
  obtain ⟨a0, n0, c0, rfl⟩ := okWide_slice Try.underlying51 (hval 0 51 v0 rfl rfl)
  obtain ⟨xs, rfl, hxs, hxw⟩ := open_spans h0
  obtain ⟨s, hsw, rfl⟩ := open_span (hval 1 53 v1 rfl rfl) h1
  clear hA0 hval0
  refine (spanAdds_any xs hxw s hsw a0 c0 W hxs).mono fun e W' ⟨bel, he⟩ => ?_
  have bel := below_of_over bel
  subst he
  exact ⟨_, rfl, _, _, _, [], _, [], hW', trodAll_mk1 (shut_bool Try.underlying4 _), (trodAll_cons_mk (Below.trod laidOut0 (by kernel_rfl) (of_decide_eq_true (by kernel_rfl)) k0 bel lt0) (trodAll_cons_mk (Below.trod laidOut0 (by kernel_rfl) (of_decide_eq_true (by kernel_rfl)) k1 bel lt1) trodAll_mk0)), rfl, bel.frame _, fun h => by cases h⟩

theorem over : Rows.spanAddsRow.holds Try.pinned (OpenSpec.ofChange Rows.spanAddsSpec) :=
  OpenClaim.holds_of_wide 8 Try.f8 rfl rfl rfl rfl rfl rfl rfl ⟨rfl, rfl, rfl, rfl, rfl⟩ rfl rfl rfl rfl rfl (by kernel_rfl) Try.func8 (by kernel_rfl)
    (of_decide_eq_true (by kernel_rfl)) (by unfold Func.isWrapper; first | (rw [if_pos (by decide +kernel)]; kernel_rfl) | (rw [if_neg (by decide +kernel)]; exact ⟨rfl, rfl⟩))
    (fun os started H enc _ => lifted os started H enc)

theorem proved : Rows.SpanAddsSaid := over
end spanAdds
end Go.Proofs.Ytbkekpfancbemaa
