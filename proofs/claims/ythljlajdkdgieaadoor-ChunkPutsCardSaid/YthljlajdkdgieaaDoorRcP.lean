/- Walks: the document's Put of samples. -/
import Derived.Test.YthljlajdkdgieaaDoorChkU
import Derived.Test.YthljlajdkdgieaaDoorRefP
import Derived.Test.YthljlajdkdgieaaDoorRzP
import Derived.Test.YthljlajdkdgieaaDoorRxP
namespace Go.Proofs.YthljlajdkdgieaaDoor
set_option linter.unusedVariables false
set_option linter.unusedSimpArgs false
open Go.RowKit
attribute [local go_sem] over_drew

abbrev rcpV (a : Option Addr) (n cap : Nat) (N : Int) (e : En) (er : Nat) : Value := .tuple #[bv a n cap N, e.v, .int .i64 (er : Nat)]

set_option maxRecDepth 100000 in
set_option maxHeartbeats 2000000 in
theorem rcput_no (bs : List Nat) (hbs : ∀ b ∈ bs, b < 256) (hl : bs.length ≤ 1000000) (N : Int) (hN : -9223372036854775808 ≤ N ∧ N ≤ 9223372036854775807) (a : Option Addr) (cap : Nat) (e : En) (he : e.wf) (t : Int) (v : Nat) (w : World) (hb : SlB w a cap bs)
    (hn : ¬ wrongC (soundB bs N) (soundE e) = 0) : Calls Tryd.prog 29 #[bv a bs.length cap N, e.v, smV t v] w (Ret w (rcpV none 0 0 0 En.zero (wrongC (soundB bs N) (soundE e)))) := by
  have H1 := hid (fun W hW => rsound_any bs hbs hl N hN a cap W hW)
  have H2 := hid (fun W => rcsound_any e he W)
  cases g1 : soundB bs N
  · rw [g1] at H1
    rw [show wrongC false (soundE e) = 11 from rfl]
    clear hn
    go_enter Tryd.func29, Tryd.ntmps29
    go_wp2_with (go_at_call 46; (with_reducible refine (H1.out _ (by repeat (first | with_reducible exact hb | with_reducible refine Sl.over ?_ _ | with_reducible refine Sl.alloc ?_ _ | with_reducible refine Sl.drew ?_ | exact hb))).mono ?_); rintro _ _ ⟨⟨e1, rfl⟩, rfl⟩)
    (try simp only [Exit.inBlock, Exit.then])
    refine bodyPost_ret (v := ?rv37) ?rh37 rfl ?rp37
    case rh37 => (simp only [results, show Tryd.f29.results = #[.cell 6 29, .cell 7 42, .tmp 8] from rfl]; go_simp; rfl)
    exact ⟨(by (try unfold Ov); repeat (first | with_reducible exact ex_over | with_reducible exact over_self _ | with_reducible refine ex_undrew ?_ | with_reducible refine ex_into ?_ _ | with_reducible refine ex_alloc ?_ _ | with_reducible refine ex_drew ?_ | ((with_reducible refine ex_setCell ?_ ?_ _); rotate_left; (first | omega | (focus (simp; done)) | (focus (simp; omega)))) | ((with_reducible refine ex_chg ?_ _ ?_); rotate_left; (first | assumption | (exact Hid.out (by assumption)))) | exact ex_over)), rfl⟩
  · rw [g1] at H1 hn
    cases g2 : soundE e
    · rw [g2] at H2
      rw [show wrongC true false = 61 from rfl]
      clear hn
      go_enter Tryd.func29, Tryd.ntmps29
      go_wp2_with (first | (go_at_call 46; (with_reducible refine (H1.out _ (by repeat (first | with_reducible exact hb | with_reducible refine Sl.over ?_ _ | with_reducible refine Sl.alloc ?_ _ | with_reducible refine Sl.drew ?_ | exact hb))).mono ?_); rintro _ _ ⟨⟨e1, rfl⟩, rfl⟩) | (go_at_call 52; (with_reducible refine (H2.out _).mono ?_); rintro _ _ ⟨⟨e2, rfl⟩, rfl⟩))
      (try simp only [Exit.inBlock, Exit.then])
      refine bodyPost_ret (v := ?rv38) ?rh38 rfl ?rp38
      case rh38 => (simp only [results, show Tryd.f29.results = #[.cell 6 29, .cell 7 42, .tmp 8] from rfl]; go_simp; rfl)
      exact ⟨(by (try unfold Ov); repeat (first | with_reducible exact ex_over | with_reducible exact over_self _ | with_reducible refine ex_undrew ?_ | with_reducible refine ex_into ?_ _ | with_reducible refine ex_alloc ?_ _ | with_reducible refine ex_drew ?_ | ((with_reducible refine ex_setCell ?_ ?_ _); rotate_left; (first | omega | (focus (simp; done)) | (focus (simp; omega)))) | ((with_reducible refine ex_chg ?_ _ ?_); rotate_left; (first | assumption | (exact Hid.out (by assumption)))) | exact ex_over)), rfl⟩
    · rw [g2] at hn
      exact absurd rfl hn

set_option maxRecDepth 100000 in
set_option maxHeartbeats 2000000 in
theorem rcput_time (l : List Bool) (hl : l.length ≤ 700000) (a : Option Addr) (cap : Nat) (e : En) (he : e.wf) (hse : soundE e = true) (t : Int) (hc : ¬ comes e t) (v : Nat) (w : World) (hb : SlB w a cap (pack l)) :
    Calls Tryd.prog 29 #[bv a (pack l).length cap l.length, e.v, smV t v] w (Ret w (rcpV none 0 0 0 En.zero 60)) := by
  have H1 := hid (fun W hW => rsound_any (pack l) pack_lt (pack_len_le (by omega)) l.length (by omega) a cap W hW)
  rw [sound_pack] at H1
  have HS := hid (fun W => rcsound_any e he W)
  rw [hse] at HS
  have hn : 0 < e.n := by
    by_cases h0 : e.n = 0
    · exact absurd (.inl h0) hc
    · exact (soundE_pos hse h0).1
  have ht : t ≤ e.last := by
    apply Int.not_lt.1; intro h; exact hc (.inr h)
  clear hc
  go_enter Tryd.func29, Tryd.ntmps29
  go_wp2_with (first | (go_at_call 46; (with_reducible refine (H1.out _ (by repeat (first | with_reducible exact hb | with_reducible refine Sl.over ?_ _ | with_reducible refine Sl.alloc ?_ _ | with_reducible refine Sl.drew ?_ | exact hb))).mono ?_); rintro _ _ ⟨⟨e1, rfl⟩, rfl⟩) | (go_at_call 52; (with_reducible refine (HS.out _).mono ?_); rintro _ _ ⟨⟨e2, rfl⟩, rfl⟩))
  (try simp only [Exit.inBlock, Exit.then])
  refine bodyPost_ret (v := ?rv39) ?rh39 rfl ?rp39
  case rh39 => (simp only [results, show Tryd.f29.results = #[.cell 6 29, .cell 7 42, .tmp 8] from rfl]; go_simp; rfl)
  exact ⟨(by (try unfold Ov); repeat (first | with_reducible exact ex_over | with_reducible exact over_self _ | with_reducible refine ex_undrew ?_ | with_reducible refine ex_into ?_ _ | with_reducible refine ex_alloc ?_ _ | with_reducible refine ex_drew ?_ | ((with_reducible refine ex_setCell ?_ ?_ _); rotate_left; (first | omega | (focus (simp; done)) | (focus (simp; omega)))) | ((with_reducible refine ex_chg ?_ _ ?_); rotate_left; (first | assumption | (exact Hid.out (by assumption)))) | exact ex_over)), rfl⟩
end Go.Proofs.YthljlajdkdgieaaDoor
