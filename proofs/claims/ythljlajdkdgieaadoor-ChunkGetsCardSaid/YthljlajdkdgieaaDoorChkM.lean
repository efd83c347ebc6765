/- Walks: ChunkGets. -/
import Derived.Test.YthljlajdkdgieaaDoorGM
import Derived.Test.YthljlajdkdgieaaDoorRcG
namespace Go.Proofs.YthljlajdkdgieaaDoor
set_option linter.unusedVariables false
set_option linter.unusedSimpArgs false
open Go.RowKit
attribute [local go_sem] over_drew chg_drew

set_option maxRecDepth 100000 in
set_option maxHeartbeats 4000000 in
theorem chunkGets_any (bs : List Nat) (hbs : ∀ b ∈ bs, b < 256) (N : Int) (hN : -9223372036854775808 ≤ N ∧ N ≤ 9223372036854775807) (a : Option Addr) (cap : Nat) (at_ : Int) (hat : -9223372036854775808 ≤ at_ ∧ at_ ≤ 9223372036854775807) (e : En) (he : e.wf) (w : World) (hT : TabW w) (hb : SlB w a cap bs) :
    Calls Tryd.prog 12 #[bv a bs.length cap N, .int .i64 at_, e.v] w (Ret w (.bool true)) := by
  have HK := hid (fun W hW => known06_any W hW)
  have hmax := len_max hb
  by_cases hlen : (600 : Int) < (bs.length : Int)
  · have hlen1 := hlen
    obtain ⟨n, last, delta, vl⟩ := e
    obtain ⟨⟨q1, q2⟩, ⟨q3, q4⟩, ⟨q5, q6⟩, q7, q8, q9⟩ := he
    simp only at q1 q2 q3 q4 q5 q6 q7 q8 q9
    go_enter Tryd.func12, Tryd.ntmps12
    go_wp2_with (go_at_call 24; (with_reducible refine (HK.out _ (by repeat (first | with_reducible exact hT | with_reducible refine TabW.over ?_ _ | with_reducible refine TabW.alloc ?_ _ | with_reducible refine TabW.drew ?_ | ((with_reducible refine TabW.setCell ?_ ?_ _); rotate_left; (first | (focus (simp; done)) | (focus (simp; omega)))) | ((with_reducible refine TabW.chg ?_ _ ?_); rotate_left; (first | assumption | (focus (simp; done)) | (focus (simp; omega)))) | exact hT))).mono ?_); rintro _ _ ⟨⟨e1, rfl⟩, rfl⟩)
    go_ret
    exact ⟨(by (try unfold Ov); repeat (first | with_reducible exact ex_over | with_reducible exact over_self _ | with_reducible refine ex_undrew ?_ | with_reducible refine ex_into ?_ _ | with_reducible refine ex_alloc ?_ _ | with_reducible refine ex_drew ?_ | ((with_reducible refine ex_setCell ?_ ?_ _); rotate_left; (first | omega | (focus (simp; done)) | (focus (simp; omega)))) | ((with_reducible refine ex_chg ?_ _ ?_); rotate_left; (first | assumption | (exact Hid.out (by assumption)))) | exact ex_over)), rfl⟩
  have hl : bs.length ≤ 1000000 := by omega
  by_cases hn : wrongC (soundB bs N) (soundE e) = 0
  · obtain ⟨hg1, hg2⟩ := wrongC_zero hn
    obtain ⟨l, rfl, rfl⟩ := sound_list hbs hg1
    have hll : l.length ≤ 700000 := by rw [pack_length] at hlen; unfold nb at hlen; omega
    have HP := hid (fun W h1 h2 => cget_yes l hll a cap at_ hat e he hg2 W h1 h2)
    have HR := hid (fun W h1 => rcget_yes l hll a cap at_ hat e he hg2 W h1)
    have hz := getC_err l at_ e
    obtain ⟨⟨⟨t, v⟩, m, d, er⟩, hg⟩ : ∃ p, getC l at_ e = p := ⟨_, rfl⟩
    rw [hg] at HP HR hz
    clear hn hg1 hg2 hg
    rcases hz with hz | hz
    · simp only [Prod.mk.injEq] at hz
      obtain ⟨⟨rfl, rfl⟩, rfl, rfl, rfl⟩ := hz
      have HP' : Hid (∀ W, TabW W → SlB W a cap (pack l) → Calls Tryd.prog 34 #[bv a (pack l).length cap l.length, .int .i64 at_, e.v] W (Ret W (.tuple #[.agg #[.int .i64 0, .int .u64 0], .int .i64 0, .agg #[.int .i64 0, .int .i64 0, .int .i64 0, .bool false, .int .u64 0, .int .u8 0, .int .u8 0], .int .u16 61]))) := HP
      have HR' : Hid (∀ W, SlB W a cap (pack l) → Calls Tryd.prog 35 #[bv a (pack l).length cap l.length, .int .i64 at_, e.v] W (Ret W (.tuple #[.agg #[.int .i64 0, .int .u64 0], .int .i64 0, .agg #[.int .i64 0, .int .i64 0, .int .i64 0, .bool false, .int .u64 0, .int .u8 0, .int .u8 0], .int .i64 61]))) := HR
      clear HP HR
      obtain ⟨n, last, delta, vl⟩ := e
      obtain ⟨⟨q1, q2⟩, ⟨q3, q4⟩, ⟨q5, q6⟩, q7, q8, q9⟩ := he
      simp only at q1 q2 q3 q4 q5 q6 q7 q8 q9
      go_enter Tryd.func12, Tryd.ntmps12
      go_wp2_with (first | (go_at_call 24; (with_reducible refine (HK.out _ (by repeat (first | with_reducible exact hT | with_reducible refine TabW.over ?_ _ | with_reducible refine TabW.alloc ?_ _ | with_reducible refine TabW.drew ?_ | ((with_reducible refine TabW.setCell ?_ ?_ _); rotate_left; (first | (focus (simp; done)) | (focus (simp; omega)))) | ((with_reducible refine TabW.chg ?_ _ ?_); rotate_left; (first | assumption | (focus (simp; done)) | (focus (simp; omega)))) | exact hT))).mono ?_); rintro _ _ ⟨⟨e1, rfl⟩, rfl⟩) | (go_at_call 34; (with_reducible refine (HP'.out _ (by repeat (first | with_reducible exact hT | with_reducible refine TabW.over ?_ _ | with_reducible refine TabW.alloc ?_ _ | with_reducible refine TabW.drew ?_ | ((with_reducible refine TabW.setCell ?_ ?_ _); rotate_left; (first | (focus (simp; done)) | (focus (simp; omega)))) | ((with_reducible refine TabW.chg ?_ _ ?_); rotate_left; (first | assumption | (focus (simp; done)) | (focus (simp; omega)))) | exact hT)) (by repeat (first | with_reducible exact hb | with_reducible refine Sl.over ?_ _ | with_reducible refine Sl.alloc ?_ _ | with_reducible refine Sl.drew ?_ | exact hb))).mono ?_); rintro _ _ ⟨⟨e2, rfl⟩, rfl⟩) | (go_at_call 35; (with_reducible refine (HR'.out _ (by repeat (first | with_reducible exact hb | with_reducible refine Sl.over ?_ _ | with_reducible refine Sl.alloc ?_ _ | with_reducible refine Sl.drew ?_ | exact hb))).mono ?_); rintro _ _ ⟨⟨e3, rfl⟩, rfl⟩))
      go_ret
      exact ⟨(by (try unfold Ov); repeat (first | with_reducible exact ex_over | with_reducible exact over_self _ | with_reducible refine ex_undrew ?_ | with_reducible refine ex_into ?_ _ | with_reducible refine ex_alloc ?_ _ | with_reducible refine ex_drew ?_ | ((with_reducible refine ex_setCell ?_ ?_ _); rotate_left; (first | omega | (focus (simp; done)) | (focus (simp; omega)))) | ((with_reducible refine ex_chg ?_ _ ?_); rotate_left; (first | assumption | (exact Hid.out (by assumption)))) | exact ex_over)), rfl⟩
    · simp only at hz
      subst hz
      have HP' : Hid (∀ W, TabW W → SlB W a cap (pack l) → Calls Tryd.prog 34 #[bv a (pack l).length cap l.length, .int .i64 at_, e.v] W (Ret W (.tuple #[smV t v, .int .i64 m, d.v, .int .u16 0]))) := HP
      have HR' : Hid (∀ W, SlB W a cap (pack l) → Calls Tryd.prog 35 #[bv a (pack l).length cap l.length, .int .i64 at_, e.v] W (Ret W (.tuple #[smV t v, .int .i64 m, d.v, .int .i64 0]))) := HR
      clear HP HR
      obtain ⟨n, last, delta, vl⟩ := e
      obtain ⟨⟨q1, q2⟩, ⟨q3, q4⟩, ⟨q5, q6⟩, q7, q8, q9⟩ := he
      simp only at q1 q2 q3 q4 q5 q6 q7 q8 q9
      go_enter Tryd.func12, Tryd.ntmps12
      go_wp2_with (first | (go_at_call 24; (with_reducible refine (HK.out _ (by repeat (first | with_reducible exact hT | with_reducible refine TabW.over ?_ _ | with_reducible refine TabW.alloc ?_ _ | with_reducible refine TabW.drew ?_ | ((with_reducible refine TabW.setCell ?_ ?_ _); rotate_left; (first | (focus (simp; done)) | (focus (simp; omega)))) | ((with_reducible refine TabW.chg ?_ _ ?_); rotate_left; (first | assumption | (focus (simp; done)) | (focus (simp; omega)))) | exact hT))).mono ?_); rintro _ _ ⟨⟨e1, rfl⟩, rfl⟩) | (go_at_call 34; (with_reducible refine (HP'.out _ (by repeat (first | with_reducible exact hT | with_reducible refine TabW.over ?_ _ | with_reducible refine TabW.alloc ?_ _ | with_reducible refine TabW.drew ?_ | ((with_reducible refine TabW.setCell ?_ ?_ _); rotate_left; (first | (focus (simp; done)) | (focus (simp; omega)))) | ((with_reducible refine TabW.chg ?_ _ ?_); rotate_left; (first | assumption | (focus (simp; done)) | (focus (simp; omega)))) | exact hT)) (by repeat (first | with_reducible exact hb | with_reducible refine Sl.over ?_ _ | with_reducible refine Sl.alloc ?_ _ | with_reducible refine Sl.drew ?_ | exact hb))).mono ?_); rintro _ _ ⟨⟨e2, rfl⟩, rfl⟩) | (go_at_call 35; (with_reducible refine (HR'.out _ (by repeat (first | with_reducible exact hb | with_reducible refine Sl.over ?_ _ | with_reducible refine Sl.alloc ?_ _ | with_reducible refine Sl.drew ?_ | exact hb))).mono ?_); rintro _ _ ⟨⟨e3, rfl⟩, rfl⟩))
      go_ret
      exact ⟨(by (try unfold Ov); repeat (first | with_reducible exact ex_over | with_reducible exact over_self _ | with_reducible refine ex_undrew ?_ | with_reducible refine ex_into ?_ _ | with_reducible refine ex_alloc ?_ _ | with_reducible refine ex_drew ?_ | ((with_reducible refine ex_setCell ?_ ?_ _); rotate_left; (first | omega | (focus (simp; done)) | (focus (simp; omega)))) | ((with_reducible refine ex_chg ?_ _ ?_); rotate_left; (first | assumption | (exact Hid.out (by assumption)))) | exact ex_over)), rfl⟩
  · have HP := hid (fun W h1 => cget_no bs hbs hl N hN a cap at_ e he W h1 hn)
    have HR := hid (fun W h1 => rcget_no bs hbs hl N hN a cap at_ e he W h1 hn)
    have hw := wrongC_cases hn
    obtain ⟨n, last, delta, vl⟩ := e
    obtain ⟨⟨q1, q2⟩, ⟨q3, q4⟩, ⟨q5, q6⟩, q7, q8, q9⟩ := he
    simp only at q1 q2 q3 q4 q5 q6 q7 q8 q9
    rcases hw with hw | hw
    all_goals
      rw [hw] at HP HR
      clear hw hn
      have HP' : Hid (∀ W, SlB W a cap bs → Calls Tryd.prog 34 #[bv a bs.length cap N, .int .i64 at_, En.v ⟨n, last, delta, vl⟩] W (Ret W (.tuple #[.agg #[.int .i64 0, .int .u64 0], .int .i64 0, .agg #[.int .i64 0, .int .i64 0, .int .i64 0, .bool false, .int .u64 0, .int .u8 0, .int .u8 0], .int .u16 _]))) := HP
      have HR' : Hid (∀ W, SlB W a cap bs → Calls Tryd.prog 35 #[bv a bs.length cap N, .int .i64 at_, En.v ⟨n, last, delta, vl⟩] W (Ret W (.tuple #[.agg #[.int .i64 0, .int .u64 0], .int .i64 0, .agg #[.int .i64 0, .int .i64 0, .int .i64 0, .bool false, .int .u64 0, .int .u8 0, .int .u8 0], .int .i64 _]))) := HR
      clear HP HR
      go_enter Tryd.func12, Tryd.ntmps12
      go_wp2_with (first | (go_at_call 24; (with_reducible refine (HK.out _ (by repeat (first | with_reducible exact hT | with_reducible refine TabW.over ?_ _ | with_reducible refine TabW.alloc ?_ _ | with_reducible refine TabW.drew ?_ | ((with_reducible refine TabW.setCell ?_ ?_ _); rotate_left; (first | (focus (simp; done)) | (focus (simp; omega)))) | ((with_reducible refine TabW.chg ?_ _ ?_); rotate_left; (first | assumption | (focus (simp; done)) | (focus (simp; omega)))) | exact hT))).mono ?_); rintro _ _ ⟨⟨e1, rfl⟩, rfl⟩) | (go_at_call 34; (with_reducible refine (HP'.out _ (by repeat (first | with_reducible exact hb | with_reducible refine Sl.over ?_ _ | with_reducible refine Sl.alloc ?_ _ | with_reducible refine Sl.drew ?_ | exact hb))).mono ?_); rintro _ _ ⟨⟨e2, rfl⟩, rfl⟩) | (go_at_call 35; (with_reducible refine (HR'.out _ (by repeat (first | with_reducible exact hb | with_reducible refine Sl.over ?_ _ | with_reducible refine Sl.alloc ?_ _ | with_reducible refine Sl.drew ?_ | exact hb))).mono ?_); rintro _ _ ⟨⟨e3, rfl⟩, rfl⟩))
      go_ret
      exact ⟨(by (try unfold Ov); repeat (first | with_reducible exact ex_over | with_reducible exact over_self _ | with_reducible refine ex_undrew ?_ | with_reducible refine ex_into ?_ _ | with_reducible refine ex_alloc ?_ _ | with_reducible refine ex_drew ?_ | ((with_reducible refine ex_setCell ?_ ?_ _); rotate_left; (first | omega | (focus (simp; done)) | (focus (simp; omega)))) | ((with_reducible refine ex_chg ?_ _ ?_); rotate_left; (first | assumption | (exact Hid.out (by assumption)))) | exact ex_over)), rfl⟩
end Go.Proofs.YthljlajdkdgieaaDoor
