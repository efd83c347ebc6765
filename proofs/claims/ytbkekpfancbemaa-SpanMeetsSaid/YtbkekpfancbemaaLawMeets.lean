/- The law SpanMeets holds: for every two lists of spans the call returns true, and the arguments read as they did. -/
import Derived.Test.YtbkekpfancbemaaSpanO
import Derived.Test.YtbkekpfancbemaaSpanE
namespace Go.Proofs.Ytbkekpfancbemaa
set_option linter.unusedVariables false
set_option linter.unusedSimpArgs false
open Go.RowKit

theorem meetGo_len : ∀ (n : Nat) (a b out : List Sp), (meetGo n a b out).length ≤ out.length + n
  | 0, _, _, out => by simp [meetGo]
  | n + 1, [], b, out => by cases b <;> simp [meetGo]
  | n + 1, x :: a, [], out => by simp [meetGo]
  | n + 1, x :: a, y :: b, out => by
    have h0 : (meetPut x y out).length ≤ out.length + 1 := by unfold meetPut; split <;> simp
    unfold meetGo
    split
    · have := meetGo_len n a (y :: b) (meetPut x y out); omega
    · have := meetGo_len n (x :: a) b (meetPut x y out); omega
theorem meetS_len (a b : List Sp) : (meetS a b).length ≤ a.length + b.length := by
  unfold meetS
  split
  · have := meetGo_len (a.length + b.length) a b []; simpa using this
  · simp

set_option maxRecDepth 100000 in
set_option maxHeartbeats 4000000 in
theorem spanMeets_any (xs : List Sp) (hwf : ∀ x ∈ xs, x.wf) (a : Option Addr) (cap : Nat) (ys : List Sp) (hwf' : ∀ x ∈ ys, x.wf) (b : Option Addr) (cap' : Nat) (w : World) (hs : SlS w a cap xs) (hs' : SlS w b cap' ys) :
    Calls Try.prog 13 #[.slice a xs.length cap, .slice b ys.length cap'] w (Ret w (.bool true)) := by
  have hmax := len_max hs
  have hmax' := len_max hs'
  have HK := hid known_any
  by_cases hl : xs.length ≤ 30 ∧ ys.length ≤ 30
  · obtain ⟨hle, hle'⟩ := hl
    have HLe := hid (lent_any xs)
    have HLf := hid (lent_any ys)
    have HA := hid (fun a c b d W h h' => meet_any xs ys hwf hwf' a b c d W h h' (by omega) (by omega))
    have HR := hid (fun a c b d W h h' => rmeet_any xs ys hwf hwf' a b c d W h h' (by omega) (by omega))
    unfold MeetRes at HA
    unfold RMeetRes at HR
    rw [← meet_same] at HR
    have l1 : (meetS xs ys).length ≤ 100 := by have := meetS_len xs ys; omega
    obtain ⟨us, has⟩ : ∃ us, us = meetS xs ys := ⟨_, rfl⟩
    rw [← has] at HA HR l1
    obtain ⟨c, hc⟩ : ∃ c, c = okN (soundB xs && soundB ys) := ⟨_, rfl⟩
    rw [← hc] at HA HR
    have hc01 : 0 ≤ c ∧ c ≤ 1 := by rw [hc]; unfold okN; split <;> omega
    clear has hc
    have HS1 := hid (fun a b c d W h h' => same_any us us a b c d W h h')
    have HS2 := hid (fun a b c d W h h' => same_any xs xs a b c d W h h')
    have HS3 := hid (fun a b c d W h h' => same_any ys ys a b c d W h h')
    rw [decide_eq_true rfl] at HS1 HS2 HS3
    go_enter Try.func13, Try.ntmps13
    go_wp2_with (first
      | (go_at_call 30; (with_reducible refine (HK.out _).mono ?_); rintro _ _ ⟨⟨e1, rfl⟩, rfl⟩)
      | (go_at_call 31; (with_reducible refine (HLe.out _ _ _ (by repeat (first | with_reducible exact hs | with_reducible refine Sl.over ?_ _ | with_reducible refine Sl.alloc ?_ _ | with_reducible refine Sl.drew ?_ | exact hs)) (by omega)).mono ?_); rintro _ _ ⟨⟨e2, rfl⟩, v2, rfl, o2⟩; obtain ⟨a2, c2, rfl, s2⟩ := Own.slice Sp.cs_len o2; clear o2)
      | (go_at_call 31; (with_reducible refine (HLf.out _ _ _ (by repeat (first | with_reducible exact hs' | with_reducible refine Sl.over ?_ _ | with_reducible refine Sl.alloc ?_ _ | with_reducible refine Sl.drew ?_ | exact hs')) (by omega)).mono ?_); rintro _ _ ⟨⟨e3, rfl⟩, v3, rfl, o3⟩; obtain ⟨a3, c3, rfl, s3⟩ := Own.slice Sp.cs_len o3; clear o3)
      | (go_at_call 44; (with_reducible refine (HA.out _ _ _ _ _ (by repeat (first | with_reducible exact s2 | with_reducible refine Sl.over ?_ _ | with_reducible refine Sl.alloc ?_ _ | with_reducible refine Sl.drew ?_ | exact s2)) (by repeat (first | with_reducible exact s3 | with_reducible refine Sl.over ?_ _ | with_reducible refine Sl.alloc ?_ _ | with_reducible refine Sl.drew ?_ | exact s3))).mono ?_); rintro _ _ ⟨⟨e4, rfl⟩, v4, rfl, o4⟩; obtain ⟨a4, c4, rfl, s4⟩ := Own.slice Sp.cs_len o4; clear o4)
      | (go_at_call 45; (with_reducible refine (HR.out _ _ _ _ _ (by repeat (first | with_reducible exact hs | with_reducible refine Sl.over ?_ _ | with_reducible refine Sl.alloc ?_ _ | with_reducible refine Sl.drew ?_ | exact hs)) (by repeat (first | with_reducible exact hs' | with_reducible refine Sl.over ?_ _ | with_reducible refine Sl.alloc ?_ _ | with_reducible refine Sl.drew ?_ | exact hs'))).mono ?_); rintro _ _ ⟨⟨e5, rfl⟩, v5, rfl, o5⟩; obtain ⟨a5, c5, rfl, s5⟩ := Own.slice Sp.cs_len o5; clear o5)
      | (go_at_call 36; (with_reducible refine (HS1.out _ _ _ _ _ (by repeat (first | with_reducible exact s4 | with_reducible refine Sl.over ?_ _ | with_reducible refine Sl.alloc ?_ _ | with_reducible refine Sl.drew ?_ | exact s4)) (by repeat (first | with_reducible exact s5 | with_reducible refine Sl.over ?_ _ | with_reducible refine Sl.alloc ?_ _ | with_reducible refine Sl.drew ?_ | exact s5))).mono ?_); rintro _ _ ⟨⟨e7, rfl⟩, rfl⟩)
      | (go_at_call 36; (with_reducible refine (HS2.out _ _ _ _ _ (by repeat (first | with_reducible exact s2 | with_reducible refine Sl.over ?_ _ | with_reducible refine Sl.alloc ?_ _ | with_reducible refine Sl.drew ?_ | exact s2)) (by repeat (first | with_reducible exact hs | with_reducible refine Sl.over ?_ _ | with_reducible refine Sl.alloc ?_ _ | with_reducible refine Sl.drew ?_ | exact hs))).mono ?_); rintro _ _ ⟨⟨e8, rfl⟩, rfl⟩)
      | (go_at_call 36; (with_reducible refine (HS3.out _ _ _ _ _ (by repeat (first | with_reducible exact s3 | with_reducible refine Sl.over ?_ _ | with_reducible refine Sl.alloc ?_ _ | with_reducible refine Sl.drew ?_ | exact s3)) (by repeat (first | with_reducible exact hs' | with_reducible refine Sl.over ?_ _ | with_reducible refine Sl.alloc ?_ _ | with_reducible refine Sl.drew ?_ | exact hs'))).mono ?_); rintro _ _ ⟨⟨e9, rfl⟩, rfl⟩))
    go_ret
    exact ⟨(by (try unfold Ov); repeat (first | with_reducible exact ex_over | with_reducible exact over_self _ | with_reducible refine ex_into ?_ _ | with_reducible refine ex_alloc ?_ _ | with_reducible refine ex_drew ?_ | ((with_reducible refine ex_setCell ?_ ?_ _); rotate_left; (first | omega | (simp; done) | (simp; omega))) | exact ex_over)), rfl⟩
  · by_cases h1 : xs.length ≤ 30
    · have h2 : 30 < ys.length := by omega
      clear hl
      go_enter Try.func13, Try.ntmps13
      go_wp2_with (go_at_call 30; (with_reducible refine (HK.out _).mono ?_); rintro _ _ ⟨⟨e1, rfl⟩, rfl⟩)
      go_ret
      exact ⟨(by (try unfold Ov); repeat (first | with_reducible exact ex_over | with_reducible exact over_self _ | with_reducible refine ex_into ?_ _ | with_reducible refine ex_alloc ?_ _ | with_reducible refine ex_drew ?_ | ((with_reducible refine ex_setCell ?_ ?_ _); rotate_left; (first | omega | (simp; done) | (simp; omega))) | exact ex_over)), rfl⟩
    · have h2 : 30 < xs.length := by omega
      clear hl h1
      go_enter Try.func13, Try.ntmps13
      go_wp2_with (go_at_call 30; (with_reducible refine (HK.out _).mono ?_); rintro _ _ ⟨⟨e1, rfl⟩, rfl⟩)
      go_ret
      exact ⟨(by (try unfold Ov); repeat (first | with_reducible exact ex_over | with_reducible exact over_self _ | with_reducible refine ex_into ?_ _ | with_reducible refine ex_alloc ?_ _ | with_reducible refine ex_drew ?_ | ((with_reducible refine ex_setCell ?_ ?_ _); rotate_left; (first | omega | (simp; done) | (simp; omega))) | exact ex_over)), rfl⟩

namespace spanMeets
open Go.ChangeShapes Go.WideShapes Go.ChangeAt
set_option maxRecDepth 100000 in
theorem lifted (os : Os) (started : os.Started) (H : Type) (enc : TypeId × Value → H) :
    ReturnsInHanded {} Try.checked os 13 .any (Rows.spanMeetsSpec.pre6 enc Try.prog Try.f13 Rows.spanMeetsRow.domain false) (Rows.spanMeetsSpec.post enc Try.prog Try.f13 false true false false) := by
  refine returnsInHanded_of_change (C := Try.checked) ownKnob0 started (by kernel_rfl) Try.func13
    (ChangeSpec.witness6 (enc := enc) (C := Try.checked) false ⟨#[], #[.slice none 0 0, .slice none 0 0], []⟩ 8 (by kernel_rfl) (by kernel_rfl) (by kernel_rfl) (by kernel_rfl)) ?_
  intro W base args ds gs before hval0 hW hcnd _
  have hval : ∀ (j : Nat) t v, Try.f13.params[j]? = some t → args[j]? = some v → Value.okWide Try.prog W .any base t v := hval0
  have hW' := hW
  obtain ⟨p, q, hA0, hV, rfl, hfz, hnd⟩ := hW
  have hA : DataW.TrodAll enc Try.prog W 0 (fun _ => true) true Try.f13.params.toList args.toList ds p := hA0
  rw [Try.params13] at hA hval
  obtain ⟨v0, vs0, d0, ds0, p0, q0, hargs, rfl, rfl, h0, r0⟩ := trodAll_cons hA
  obtain ⟨v1, vs1, d1, ds1, p1, q1, rfl, rfl, rfl, h1, r1⟩ := trodAll_cons r0
  obtain ⟨rfl, rfl, rfl⟩ := trodAll_nil r1
  obtain rfl : args = #[v0, v1] := by cases args; simp_all
  obtain ⟨rfl, rfl⟩ := trodVars_none hV
  have lt0 : ∀ x ∈ p0, x.block < W.heap.size := by obtain ⟨m, hm⟩ := h0; exact DataW.trod_lt m _ _ _ hm
  have k0 := h0
  obtain ⟨a0, n0, c0, rfl⟩ := okWide_slice Try.underlying51 (hval 0 51 v0 rfl rfl)
  obtain ⟨x0, rfl, s0, w0⟩ := open_spans h0
  have lt1 : ∀ x ∈ p1, x.block < W.heap.size := by obtain ⟨m, hm⟩ := h1; exact DataW.trod_lt m _ _ _ hm
  have k1 := h1
  obtain ⟨a1, n1, c1, rfl⟩ := okWide_slice Try.underlying51 (hval 1 51 v1 rfl rfl)
  obtain ⟨x1, rfl, s1, w1⟩ := open_spans h1
  clear hA0 hval0
  refine (spanMeets_any x0 w0 a0 c0 x1 w1 a1 c1 W s0 s1).mono fun e W' ⟨bel, he⟩ => ?_
  have bel := below_of_over bel
  subst he
  exact ⟨_, rfl, _, _, _, [], _, [], hW', trodAll_mk1 (shut_bool Try.underlying4 _), (trodAll_cons_mk (Below.trod laidOut0 (by kernel_rfl) (of_decide_eq_true (by kernel_rfl)) k0 bel lt0) (trodAll_cons_mk (Below.trod laidOut0 (by kernel_rfl) (of_decide_eq_true (by kernel_rfl)) k1 bel lt1) trodAll_mk0)), rfl, bel.frame _, fun h => by cases h⟩

theorem over : Rows.spanMeetsRow.holds Try.pinned (OpenSpec.ofChange Rows.spanMeetsSpec) :=
  OpenClaim.holds_of_wide 13 Try.f13 rfl rfl rfl rfl rfl rfl rfl ⟨rfl, rfl, rfl, rfl, rfl⟩ rfl rfl rfl rfl rfl (by kernel_rfl) Try.func13 (by kernel_rfl)
    (of_decide_eq_true (by kernel_rfl)) (by unfold Func.isWrapper; first | (rw [if_pos (by decide +kernel)]; kernel_rfl) | (rw [if_neg (by decide +kernel)]; exact ⟨rfl, rfl⟩))
    (fun os started H enc _ => lifted os started H enc)

theorem proved : Rows.SpanMeetsSaid := over
end spanMeets
end Go.Proofs.Ytbkekpfancbemaa
