/- Walks: ChunkPuts. -/
import Derived.Test.YthljlajdkdgieaaDoorGM
import Derived.Test.YthljlajdkdgieaaDoorGL
import Derived.Test.YthljlajdkdgieaaDoorGN
namespace Go.Proofs.YthljlajdkdgieaaDoor
set_option linter.unusedVariables false
set_option linter.unusedSimpArgs false
open Go.RowKit
attribute [local go_sem] over_drew

theorem wrongC_cases {a b : Bool} (h : ¬ wrongC a b = 0) : wrongC a b = 11 ∨ wrongC a b = 61 := by
  cases a <;> cases b <;> simp_all [wrongC]
theorem wrongC_zero {a b : Bool} (h : wrongC a b = 0) : a = true ∧ b = true := by
  cases a <;> cases b <;> simp_all [wrongC]
set_option maxRecDepth 100000 in
set_option maxHeartbeats 4000000 in
theorem chunkPuts_any (bs : List Nat) (hbs : ∀ b ∈ bs, b < 256) (N : Int) (hN : -9223372036854775808 ≤ N ∧ N ≤ 9223372036854775807) (a : Option Addr) (cap : Nat) (e : En) (he : e.wf) (s : Sm) (hs : s.wf) (w : World) (hT : TabW w) (hb : SlB w a cap bs) :
    Calls Tryd.prog 7 #[bv a bs.length cap N, e.v, smV s.t s.v] w (Ret w (.bool true)) := by
  have HK := hid (fun W hW => known06_any W hW)
  have hmax := len_max hb
  obtain ⟨t, v⟩ := s
  obtain ⟨ht, hv⟩ := hs
  simp only at ht hv
  by_cases hlen : (600 : Int) < (bs.length : Int)
  · obtain ⟨n, last, delta, vl⟩ := e
    obtain ⟨⟨q1, q2⟩, ⟨q3, q4⟩, ⟨q5, q6⟩, q7, q8, q9⟩ := he
    obtain ⟨ht1, ht2⟩ := ht
    simp only at q1 q2 q3 q4 q5 q6 q7 q8 q9
    go_enter Tryd.func7, Tryd.ntmps7
    go_wp2_with (go_at_call 24; (with_reducible refine (HK.out _ (by repeat (first | with_reducible exact hT | with_reducible refine TabW.over ?_ _ | with_reducible refine TabW.alloc ?_ _ | with_reducible refine TabW.drew ?_ | ((with_reducible refine TabW.setCell ?_ ?_ _); rotate_left; (first | (focus (simp; done)) | (focus (simp; omega)))) | ((with_reducible refine TabW.chg ?_ _ ?_); rotate_left; (first | assumption | (focus (simp; done)) | (focus (simp; omega)))) | exact hT))).mono ?_); rintro _ _ ⟨⟨e1, rfl⟩, rfl⟩)
    go_ret
    exact ⟨(by (try unfold Ov); repeat (first | with_reducible exact ex_over | with_reducible exact over_self _ | with_reducible refine ex_undrew ?_ | with_reducible refine ex_into ?_ _ | with_reducible refine ex_alloc ?_ _ | with_reducible refine ex_drew ?_ | ((with_reducible refine ex_setCell ?_ ?_ _); rotate_left; (first | omega | (focus (simp; done)) | (focus (simp; omega)))) | ((with_reducible refine ex_chg ?_ _ ?_); rotate_left; (first | assumption | (exact Hid.out (by assumption)))) | exact ex_over)), rfl⟩
  have hl : bs.length ≤ 1000000 := by omega
  by_cases hn : wrongC (soundB bs N) (soundE e) = 0
  · obtain ⟨hg1, hg2⟩ := wrongC_zero hn
    obtain ⟨l, rfl, rfl⟩ := sound_list hbs hg1
    have hll : l.length ≤ 700000 := by rw [pack_length] at hlen; unfold nb at hlen; omega
    by_cases hc : comes e t
    · have HP := hid (fun W h1 h2 => cput_yes l hll a cap e he hg2 t ht hc v hv W h1 h2)
      have HR := hid (fun W h1 h2 => rcput_yes l hll a cap e he hg2 t ht hc v hv W h1 h2)
      generalize l ++ (laid e t v).1 = L at *
      generalize (laid e t v).2 = t' at *
      have HS := hid (fun b1 c1 b2 c2 W h1 h2 => rsame_any (pack L) (pack L) pack_lt pack_lt L.length L.length b1 c1 b2 c2 W h1 h2)
      rw [decide_eq_true rfl, decide_eq_true rfl] at HS
      clear hn hg1 hg2 hc
      obtain ⟨n, last, delta, vl⟩ := e
      obtain ⟨⟨q1, q2⟩, ⟨q3, q4⟩, ⟨q5, q6⟩, q7, q8, q9⟩ := he
      obtain ⟨ht1, ht2⟩ := ht
      simp only at q1 q2 q3 q4 q5 q6 q7 q8 q9
      go_enter Tryd.func7, Tryd.ntmps7
      go_wp2_with (first | (go_at_call 24; (with_reducible refine (HK.out _ (by repeat (first | with_reducible exact hT | with_reducible refine TabW.over ?_ _ | with_reducible refine TabW.alloc ?_ _ | with_reducible refine TabW.drew ?_ | ((with_reducible refine TabW.setCell ?_ ?_ _); rotate_left; (first | (focus (simp; done)) | (focus (simp; omega)))) | ((with_reducible refine TabW.chg ?_ _ ?_); rotate_left; (first | assumption | (focus (simp; done)) | (focus (simp; omega)))) | exact hT))).mono ?_); rintro _ _ ⟨⟨e1, rfl⟩, rfl⟩) | (go_at_call 28; (with_reducible refine (HP.out _ (by repeat (first | with_reducible exact hT | with_reducible refine TabW.over ?_ _ | with_reducible refine TabW.alloc ?_ _ | with_reducible refine TabW.drew ?_ | ((with_reducible refine TabW.setCell ?_ ?_ _); rotate_left; (first | (focus (simp; done)) | (focus (simp; omega)))) | ((with_reducible refine TabW.chg ?_ _ ?_); rotate_left; (first | assumption | (focus (simp; done)) | (focus (simp; omega)))) | exact hT)) (by repeat (first | with_reducible exact hb | with_reducible refine Sl.over ?_ _ | with_reducible refine Sl.alloc ?_ _ | with_reducible refine Sl.drew ?_ | exact hb))).mono ?_); rintro _ _ ⟨a2, c2, rfl, ⟨e2, rfl⟩, o2⟩; have s2 := (Own.slice' bcs_len o2).2; clear o2) | (go_at_call 29; (with_reducible refine (HR.out _ (by repeat (first | with_reducible exact hT | with_reducible refine TabW.over ?_ _ | with_reducible refine TabW.alloc ?_ _ | with_reducible refine TabW.drew ?_ | ((with_reducible refine TabW.setCell ?_ ?_ _); rotate_left; (first | (focus (simp; done)) | (focus (simp; omega)))) | ((with_reducible refine TabW.chg ?_ _ ?_); rotate_left; (first | assumption | (focus (simp; done)) | (focus (simp; omega)))) | exact hT)) (by repeat (first | with_reducible exact hb | with_reducible refine Sl.over ?_ _ | with_reducible refine Sl.alloc ?_ _ | with_reducible refine Sl.drew ?_ | exact hb))).mono ?_); rintro _ _ ⟨a3, c3, rfl, ⟨e3, rfl⟩, s3⟩) | (go_at_call 23; (with_reducible refine (HS.out _ _ _ _ _ (by repeat (first | with_reducible exact s2 | with_reducible refine Sl.over ?_ _ | with_reducible refine Sl.alloc ?_ _ | with_reducible refine Sl.drew ?_ | exact s2)) (by repeat (first | with_reducible exact s3 | with_reducible refine Sl.over ?_ _ | with_reducible refine Sl.alloc ?_ _ | with_reducible refine Sl.drew ?_ | exact s3))).mono ?_); rintro _ _ ⟨⟨e4, rfl⟩, rfl⟩))
      go_ret
      exact ⟨(by (try unfold Ov); repeat (first | with_reducible exact ex_over | with_reducible exact over_self _ | with_reducible refine ex_undrew ?_ | with_reducible refine ex_into ?_ _ | with_reducible refine ex_alloc ?_ _ | with_reducible refine ex_drew ?_ | ((with_reducible refine ex_setCell ?_ ?_ _); rotate_left; (first | omega | (focus (simp; done)) | (focus (simp; omega)))) | ((with_reducible refine ex_chg ?_ _ ?_); rotate_left; (first | assumption | (exact Hid.out (by assumption)))) | exact ex_over)), rfl⟩
    · have HP : Hid (∀ W, SlB W a cap (pack l) → Calls Tryd.prog 28 #[bv a (pack l).length cap l.length, e.v, smV t v] W (Ret W (.tuple #[bv none 0 0 0, .agg #[.int .i64 0, .int .i64 0, .int .i64 0, .bool false, .int .u64 0, .int .u8 0, .int .u8 0], .int .u16 60]))) := hid (fun W h1 => cput_time l hll a cap e he hg2 t hc v W h1)
      have HR : Hid (∀ W, SlB W a cap (pack l) → Calls Tryd.prog 29 #[bv a (pack l).length cap l.length, e.v, smV t v] W (Ret W (.tuple #[bv none 0 0 0, .agg #[.int .i64 0, .int .i64 0, .int .i64 0, .bool false, .int .u64 0, .int .u8 0, .int .u8 0], .int .i64 60]))) := hid (fun W h1 => rcput_time l hll a cap e he hg2 t hc v W h1)
      have HS : Hid (∀ W, Calls Tryd.prog 23 #[.agg #[.slice none 0 0, .int .i64 0], .agg #[.slice none 0 0, .int .i64 0]] W (Ret W (.bool true))) := hid (fun W => rsame_any [] [] (by simp) (by simp) 0 0 none 0 none 0 W (Sl.nil W) (Sl.nil W))
      clear hn hg1 hg2 hc
      obtain ⟨n, last, delta, vl⟩ := e
      obtain ⟨⟨q1, q2⟩, ⟨q3, q4⟩, ⟨q5, q6⟩, q7, q8, q9⟩ := he
      obtain ⟨ht1, ht2⟩ := ht
      simp only at q1 q2 q3 q4 q5 q6 q7 q8 q9
      go_enter Tryd.func7, Tryd.ntmps7
      go_wp2_with (first | (go_at_call 24; (with_reducible refine (HK.out _ (by repeat (first | with_reducible exact hT | with_reducible refine TabW.over ?_ _ | with_reducible refine TabW.alloc ?_ _ | with_reducible refine TabW.drew ?_ | ((with_reducible refine TabW.setCell ?_ ?_ _); rotate_left; (first | (focus (simp; done)) | (focus (simp; omega)))) | ((with_reducible refine TabW.chg ?_ _ ?_); rotate_left; (first | assumption | (focus (simp; done)) | (focus (simp; omega)))) | exact hT))).mono ?_); rintro _ _ ⟨⟨e1, rfl⟩, rfl⟩) | (go_at_call 28; (with_reducible refine (HP.out _ (by repeat (first | with_reducible exact hb | with_reducible refine Sl.over ?_ _ | with_reducible refine Sl.alloc ?_ _ | with_reducible refine Sl.drew ?_ | exact hb))).mono ?_); rintro _ _ ⟨⟨e2, rfl⟩, rfl⟩) | (go_at_call 29; (with_reducible refine (HR.out _ (by repeat (first | with_reducible exact hb | with_reducible refine Sl.over ?_ _ | with_reducible refine Sl.alloc ?_ _ | with_reducible refine Sl.drew ?_ | exact hb))).mono ?_); rintro _ _ ⟨⟨e3, rfl⟩, rfl⟩) | (go_at_call 23; (with_reducible refine (HS.out _).mono ?_); rintro _ _ ⟨⟨e4, rfl⟩, rfl⟩))
      go_ret
      exact ⟨(by (try unfold Ov); repeat (first | with_reducible exact ex_over | with_reducible exact over_self _ | with_reducible refine ex_undrew ?_ | with_reducible refine ex_into ?_ _ | with_reducible refine ex_alloc ?_ _ | with_reducible refine ex_drew ?_ | ((with_reducible refine ex_setCell ?_ ?_ _); rotate_left; (first | omega | (focus (simp; done)) | (focus (simp; omega)))) | ((with_reducible refine ex_chg ?_ _ ?_); rotate_left; (first | assumption | (exact Hid.out (by assumption)))) | exact ex_over)), rfl⟩
  · have HP := hid (fun W h1 => cput_no bs hbs hl N hN a cap e he t v W h1 hn)
    have HR := hid (fun W h1 => rcput_no bs hbs hl N hN a cap e he t v W h1 hn)
    have HS : Hid (∀ W, Calls Tryd.prog 23 #[.agg #[.slice none 0 0, .int .i64 0], .agg #[.slice none 0 0, .int .i64 0]] W (Ret W (.bool true))) := hid (fun W => rsame_any [] [] (by simp) (by simp) 0 0 none 0 none 0 W (Sl.nil W) (Sl.nil W))
    have hw := wrongC_cases hn
    obtain ⟨n, last, delta, vl⟩ := e
    obtain ⟨⟨q1, q2⟩, ⟨q3, q4⟩, ⟨q5, q6⟩, q7, q8, q9⟩ := he
    obtain ⟨ht1, ht2⟩ := ht
    simp only at q1 q2 q3 q4 q5 q6 q7 q8 q9
    rcases hw with hw | hw
    all_goals
      rw [hw] at HP HR
      clear hw hn
      have HP' : Hid (∀ W, SlB W a cap bs → Calls Tryd.prog 28 #[bv a bs.length cap N, En.v ⟨n, last, delta, vl⟩, smV t v] W (Ret W (.tuple #[.agg #[.slice none 0 0, .int .i64 0], .agg #[.int .i64 0, .int .i64 0, .int .i64 0, .bool false, .int .u64 0, .int .u8 0, .int .u8 0], .int .u16 _]))) := HP
      have HR' : Hid (∀ W, SlB W a cap bs → Calls Tryd.prog 29 #[bv a bs.length cap N, En.v ⟨n, last, delta, vl⟩, smV t v] W (Ret W (.tuple #[.agg #[.slice none 0 0, .int .i64 0], .agg #[.int .i64 0, .int .i64 0, .int .i64 0, .bool false, .int .u64 0, .int .u8 0, .int .u8 0], .int .i64 _]))) := HR
      clear HP HR
      go_enter Tryd.func7, Tryd.ntmps7
      go_wp2_with (first | (go_at_call 24; (with_reducible refine (HK.out _ (by repeat (first | with_reducible exact hT | with_reducible refine TabW.over ?_ _ | with_reducible refine TabW.alloc ?_ _ | with_reducible refine TabW.drew ?_ | ((with_reducible refine TabW.setCell ?_ ?_ _); rotate_left; (first | (focus (simp; done)) | (focus (simp; omega)))) | ((with_reducible refine TabW.chg ?_ _ ?_); rotate_left; (first | assumption | (focus (simp; done)) | (focus (simp; omega)))) | exact hT))).mono ?_); rintro _ _ ⟨⟨e1, rfl⟩, rfl⟩) | (go_at_call 28; (with_reducible refine (HP'.out _ (by repeat (first | with_reducible exact hb | with_reducible refine Sl.over ?_ _ | with_reducible refine Sl.alloc ?_ _ | with_reducible refine Sl.drew ?_ | exact hb))).mono ?_); rintro _ _ ⟨⟨e2, rfl⟩, rfl⟩) | (go_at_call 29; (with_reducible refine (HR'.out _ (by repeat (first | with_reducible exact hb | with_reducible refine Sl.over ?_ _ | with_reducible refine Sl.alloc ?_ _ | with_reducible refine Sl.drew ?_ | exact hb))).mono ?_); rintro _ _ ⟨⟨e3, rfl⟩, rfl⟩) | (go_at_call 23; (with_reducible refine (HS.out _).mono ?_); rintro _ _ ⟨⟨e4, rfl⟩, rfl⟩))
      go_ret
      exact ⟨(by (try unfold Ov); repeat (first | with_reducible exact ex_over | with_reducible exact over_self _ | with_reducible refine ex_undrew ?_ | with_reducible refine ex_into ?_ _ | with_reducible refine ex_alloc ?_ _ | with_reducible refine ex_drew ?_ | ((with_reducible refine ex_setCell ?_ ?_ _); rotate_left; (first | omega | (focus (simp; done)) | (focus (simp; omega)))) | ((with_reducible refine ex_chg ?_ _ ?_); rotate_left; (first | assumption | (exact Hid.out (by assumption)))) | exact ex_over)), rfl⟩
end Go.Proofs.YthljlajdkdgieaaDoor
