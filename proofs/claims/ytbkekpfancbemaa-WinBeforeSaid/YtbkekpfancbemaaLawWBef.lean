/- The law WinBefore holds: for every two places the call returns true, and the arguments read as they did. -/
import Derived.Test.YtbkekpfancbemaaWinO
namespace Go.Proofs.Ytbkekpfancbemaa
set_option linter.unusedVariables false
set_option linter.unusedSimpArgs false
open Go.RowKit

theorem bef_t {a b : Pl} (h : a.c < b.c ∨ (a.c = b.c ∧ a.n < b.n)) : bef a b = true := by
  unfold bef
  split
  · simp; omega
  · simp; omega
theorem bef_f {a b : Pl} (h : ¬ (a.c < b.c ∨ (a.c = b.c ∧ a.n < b.n))) : bef a b = false := by
  unfold bef
  split
  · simp; omega
  · simp; omega

set_option maxRecDepth 100000 in
set_option maxHeartbeats 4000000 in
theorem winBefore_any (a : Pl) (_ha : a.wf) (b : Pl) (_hb : b.wf) (w : World) : Calls Try.prog 3 #[a.v, b.v] w (Ret w (.bool true)) := by
  clear _ha _hb
  have HK := hid known13_any
  have HX := hid (fun W => before_any a b W)
  have HY := hid (fun W => before_any b a W)
  have HR := hid (fun W => rbefore_any a b W)
  unfold Pl.v at *
  rcases Int.lt_trichotomy a.c b.c with h | h | h
  · rw [show bef a b = true from bef_t (by omega)] at HX HR
    rw [show bef b a = false from bef_f (by omega)] at HY
    have s1 : (a.c == b.c) = false := by simp; omega
    clear h
    go_enter Try.func3, Try.ntmps3
    go_wp2_with (first
      | (go_at_call 15; (with_reducible refine (HX.out _).mono ?_); rintro _ _ ⟨⟨e1, rfl⟩, rfl⟩)
      | (go_at_call 15; (with_reducible refine (HY.out _).mono ?_); rintro _ _ ⟨⟨e2, rfl⟩, rfl⟩)
      | (go_at_call 16; (with_reducible refine (HK.out _).mono ?_); rintro _ _ ⟨⟨e3, rfl⟩, rfl⟩)
      | (go_at_call 17; (with_reducible refine (HR.out _).mono ?_); rintro _ _ ⟨⟨e4, rfl⟩, rfl⟩))
    go_ret
    exact ⟨(by (try unfold Ov); repeat (first | with_reducible exact ex_over | with_reducible exact over_self _ | with_reducible refine ex_into ?_ _ | with_reducible refine ex_alloc ?_ _ | with_reducible refine ex_drew ?_ | ((with_reducible refine ex_setCell ?_ ?_ _); rotate_left; (first | omega | (simp; done) | (simp; omega))) | ((with_reducible refine ex_chg ?_ _ ?_); rotate_left; (first | assumption | (exact Hid.out (by assumption)))) | exact ex_over)), rfl⟩
  · rcases Int.lt_trichotomy a.n b.n with h' | h' | h'
    · rw [show bef a b = true from bef_t (by omega)] at HX HR
      rw [show bef b a = false from bef_f (by omega)] at HY
      have s1 : (a.c == b.c) = true := by simp; omega
      have s2 : (a.n == b.n) = false := by simp; omega
      clear h'
      clear h
      go_enter Try.func3, Try.ntmps3
      go_wp2_with (first
        | (go_at_call 15; (with_reducible refine (HX.out _).mono ?_); rintro _ _ ⟨⟨e1, rfl⟩, rfl⟩)
        | (go_at_call 15; (with_reducible refine (HY.out _).mono ?_); rintro _ _ ⟨⟨e2, rfl⟩, rfl⟩)
        | (go_at_call 16; (with_reducible refine (HK.out _).mono ?_); rintro _ _ ⟨⟨e3, rfl⟩, rfl⟩)
        | (go_at_call 17; (with_reducible refine (HR.out _).mono ?_); rintro _ _ ⟨⟨e4, rfl⟩, rfl⟩))
      go_ret
      exact ⟨(by (try unfold Ov); repeat (first | with_reducible exact ex_over | with_reducible exact over_self _ | with_reducible refine ex_into ?_ _ | with_reducible refine ex_alloc ?_ _ | with_reducible refine ex_drew ?_ | ((with_reducible refine ex_setCell ?_ ?_ _); rotate_left; (first | omega | (simp; done) | (simp; omega))) | ((with_reducible refine ex_chg ?_ _ ?_); rotate_left; (first | assumption | (exact Hid.out (by assumption)))) | exact ex_over)), rfl⟩
    · rw [show bef a b = false from bef_f (by omega)] at HX HR
      rw [show bef b a = false from bef_f (by omega)] at HY
      have s1 : (a.c == b.c) = true := by simp; omega
      have s2 : (a.n == b.n) = true := by simp; omega
      clear h'
      clear h
      go_enter Try.func3, Try.ntmps3
      go_wp2_with (first
        | (go_at_call 15; (with_reducible refine (HX.out _).mono ?_); rintro _ _ ⟨⟨e1, rfl⟩, rfl⟩)
        | (go_at_call 15; (with_reducible refine (HY.out _).mono ?_); rintro _ _ ⟨⟨e2, rfl⟩, rfl⟩)
        | (go_at_call 16; (with_reducible refine (HK.out _).mono ?_); rintro _ _ ⟨⟨e3, rfl⟩, rfl⟩)
        | (go_at_call 17; (with_reducible refine (HR.out _).mono ?_); rintro _ _ ⟨⟨e4, rfl⟩, rfl⟩))
      go_ret
      exact ⟨(by (try unfold Ov); repeat (first | with_reducible exact ex_over | with_reducible exact over_self _ | with_reducible refine ex_into ?_ _ | with_reducible refine ex_alloc ?_ _ | with_reducible refine ex_drew ?_ | ((with_reducible refine ex_setCell ?_ ?_ _); rotate_left; (first | omega | (simp; done) | (simp; omega))) | ((with_reducible refine ex_chg ?_ _ ?_); rotate_left; (first | assumption | (exact Hid.out (by assumption)))) | exact ex_over)), rfl⟩
    · rw [show bef a b = false from bef_f (by omega)] at HX HR
      rw [show bef b a = true from bef_t (by omega)] at HY
      have s1 : (a.c == b.c) = true := by simp; omega
      have s2 : (a.n == b.n) = false := by simp; omega
      clear h'
      clear h
      go_enter Try.func3, Try.ntmps3
      go_wp2_with (first
        | (go_at_call 15; (with_reducible refine (HX.out _).mono ?_); rintro _ _ ⟨⟨e1, rfl⟩, rfl⟩)
        | (go_at_call 15; (with_reducible refine (HY.out _).mono ?_); rintro _ _ ⟨⟨e2, rfl⟩, rfl⟩)
        | (go_at_call 16; (with_reducible refine (HK.out _).mono ?_); rintro _ _ ⟨⟨e3, rfl⟩, rfl⟩)
        | (go_at_call 17; (with_reducible refine (HR.out _).mono ?_); rintro _ _ ⟨⟨e4, rfl⟩, rfl⟩))
      go_ret
      exact ⟨(by (try unfold Ov); repeat (first | with_reducible exact ex_over | with_reducible exact over_self _ | with_reducible refine ex_into ?_ _ | with_reducible refine ex_alloc ?_ _ | with_reducible refine ex_drew ?_ | ((with_reducible refine ex_setCell ?_ ?_ _); rotate_left; (first | omega | (simp; done) | (simp; omega))) | ((with_reducible refine ex_chg ?_ _ ?_); rotate_left; (first | assumption | (exact Hid.out (by assumption)))) | exact ex_over)), rfl⟩
  · rw [show bef a b = false from bef_f (by omega)] at HX HR
    rw [show bef b a = true from bef_t (by omega)] at HY
    have s1 : (a.c == b.c) = false := by simp; omega
    clear h
    go_enter Try.func3, Try.ntmps3
    go_wp2_with (first
      | (go_at_call 15; (with_reducible refine (HX.out _).mono ?_); rintro _ _ ⟨⟨e1, rfl⟩, rfl⟩)
      | (go_at_call 15; (with_reducible refine (HY.out _).mono ?_); rintro _ _ ⟨⟨e2, rfl⟩, rfl⟩)
      | (go_at_call 16; (with_reducible refine (HK.out _).mono ?_); rintro _ _ ⟨⟨e3, rfl⟩, rfl⟩)
      | (go_at_call 17; (with_reducible refine (HR.out _).mono ?_); rintro _ _ ⟨⟨e4, rfl⟩, rfl⟩))
    go_ret
    exact ⟨(by (try unfold Ov); repeat (first | with_reducible exact ex_over | with_reducible exact over_self _ | with_reducible refine ex_into ?_ _ | with_reducible refine ex_alloc ?_ _ | with_reducible refine ex_drew ?_ | ((with_reducible refine ex_setCell ?_ ?_ _); rotate_left; (first | omega | (simp; done) | (simp; omega))) | ((with_reducible refine ex_chg ?_ _ ?_); rotate_left; (first | assumption | (exact Hid.out (by assumption)))) | exact ex_over)), rfl⟩

namespace winBefore
open Go.ChangeShapes Go.WideShapes Go.ChangeAt
set_option maxRecDepth 100000 in
theorem lifted (os : Os) (started : os.Started) (H : Type) (enc : TypeId × Value → H) :
    ReturnsInHanded {} Try.checked os 3 .any (Rows.winBeforeSpec.pre6 enc Try.prog Try.f3 Rows.winBeforeRow.domain false) (Rows.winBeforeSpec.post enc Try.prog Try.f3 false true false false) := by
  refine returnsInHanded_of_change (C := Try.checked) ownKnob0 started (by kernel_rfl) Try.func3
    (ChangeSpec.witness6 (enc := enc) (C := Try.checked) false ⟨#[], #[.agg #[.int .u32 0, .int .u32 0, .int .u32 0], .agg #[.int .u32 0, .int .u32 0, .int .u32 0]], []⟩ 8 (by kernel_rfl) (by kernel_rfl) (by kernel_rfl) (by kernel_rfl)) ?_
  intro W base args ds gs before hval0 hW hcnd _
  have hval : ∀ (j : Nat) t v, Try.f3.params[j]? = some t → args[j]? = some v → Value.okWide Try.prog W .any base t v := hval0
  have hW' := hW
  obtain ⟨p, q, hA0, hV, rfl, hfz, hnd⟩ := hW
  have hA : DataW.TrodAll enc Try.prog W 0 (fun _ => true) true Try.f3.params.toList args.toList ds p := hA0
  rw [Try.params3] at hA hval
  obtain ⟨v0, vs0, d0, ds0, p0, q0, hargs, rfl, rfl, h0, r0⟩ := trodAll_cons hA
  obtain ⟨v1, vs1, d1, ds1, p1, q1, rfl, rfl, rfl, h1, r1⟩ := trodAll_cons r0
  obtain ⟨rfl, rfl, rfl⟩ := trodAll_nil r1
  obtain rfl : args = #[v0, v1] := by cases args; simp_all
  obtain ⟨rfl, rfl⟩ := trodVars_none hV
  have lt0 : ∀ x ∈ p0, x.block < W.heap.size := by obtain ⟨m, hm⟩ := h0; exact DataW.trod_lt m _ _ _ hm
  have k0 := h0
  obtain ⟨x0, w0, rfl⟩ := open_place (hval 0 24 v0 rfl rfl) h0
  have lt1 : ∀ x ∈ p1, x.block < W.heap.size := by obtain ⟨m, hm⟩ := h1; exact DataW.trod_lt m _ _ _ hm
  have k1 := h1
  obtain ⟨x1, w1, rfl⟩ := open_place (hval 1 24 v1 rfl rfl) h1
  clear hA0 hval0
  refine (winBefore_any x0 w0 x1 w1 W ).mono fun e W' ⟨bel, he⟩ => ?_
  have bel := below_of_over bel
  subst he
  exact ⟨_, rfl, _, _, _, [], _, [], hW', trodAll_mk1 (shut_bool Try.underlying4 _), (trodAll_cons_mk (Below.trod laidOut0 (by kernel_rfl) (of_decide_eq_true (by kernel_rfl)) k0 bel lt0) (trodAll_cons_mk (Below.trod laidOut0 (by kernel_rfl) (of_decide_eq_true (by kernel_rfl)) k1 bel lt1) trodAll_mk0)), rfl, bel.frame _, fun h => by cases h⟩

theorem over : Rows.winBeforeRow.holds Try.pinned (OpenSpec.ofChange Rows.winBeforeSpec) :=
  OpenClaim.holds_of_wide 3 Try.f3 rfl rfl rfl rfl rfl rfl rfl ⟨rfl, rfl, rfl, rfl, rfl⟩ rfl rfl rfl rfl rfl (by kernel_rfl) Try.func3 (by kernel_rfl)
    (of_decide_eq_true (by kernel_rfl)) (by unfold Func.isWrapper; first | (rw [if_pos (by decide +kernel)]; kernel_rfl) | (rw [if_neg (by decide +kernel)]; exact ⟨rfl, rfl⟩))
    (fun os started H enc _ => lifted os started H enc)

theorem proved : Rows.WinBeforeSaid := over
end winBefore
end Go.Proofs.Ytbkekpfancbemaa
