/- Walks: ChunkReads. -/
import Derived.Test.YthljlajdkdgieaaDoorChkZ
import Derived.Test.YthljlajdkdgieaaDoorRcS
import Derived.Test.YthljlajdkdgieaaDoorChkK
namespace Go.Proofs.YthljlajdkdgieaaDoor
set_option linter.unusedVariables false
set_option linter.unusedSimpArgs false
open Go.RowKit
attribute [local go_sem] over_drew chg_drew

/-- What reading any bits comes to, on both sides. -/
theorem reads_ex {bs : List Nat} (hbs : ∀ b ∈ bs, b < 256) (hl : bs.length ≤ 600) {N : Int} (hN : -9223372036854775808 ≤ N ∧ N ≤ 9223372036854775807) (a : Option Addr) (c : Nat) :
    ∃ xs us e er, xs.length ≤ 700000 ∧ us.length ≤ 700000 ∧ er ≤ 61 ∧
      (∀ W, TabW W → SlB W a c bs → Calls Tryd.prog 36 #[bv a bs.length c N] W (AllPost W xs e er)) ∧
      (∀ W, TabW W → SlB W a c bs → Calls Tryd.prog 39 #[bv a bs.length c N] W (EndPost W us er)) ∧
      (∀ W, SlB W a c bs → Calls Tryd.prog 38 #[bv a bs.length c N] W (RAllPost W xs e er)) ∧
      (∀ W, SlB W a c bs → Calls Tryd.prog 40 #[bv a bs.length c N] W (REndPost W us er)) := by
  by_cases hs : soundB bs N = true
  · obtain ⟨L, rfl, rfl⟩ := sound_list hbs hs
    have hll : L.length ≤ 700000 := by rw [pack_length] at hl; unfold nb at hl; omega
    obtain ⟨xs, er, hr⟩ := runC_ex L hll
    have hx : xs.length ≤ 700000 := by have := hr.rd.len; omega
    have hE := each_ok hll a c hr
    have hR : ReadOK (pack L) a c L.length (if er = 0 then xs else []) (if er = 0 then endsK xs xs.length else []) (if er = 0 then knowC En.zero xs else En.zero) er := fun W h => rread_any L hll a c xs er hr W h
    refine ⟨_, _, _, er, ?_, ?_, ?_, fun W h1 h2 => call_any _ _ a c xs er hE hx W h1 h2, fun W h1 h2 => cends_any _ _ a c xs er hE hx W h1 h2, fun W h => rall_any hR W h, fun W h => rends_any hR W h⟩
    · split
      · exact hx
      · simp
    · split
      · rw [endsK_len]; exact hx
      · simp
    · rcases hr.fin with ⟨h, _⟩ | ⟨h, _⟩ <;> omega
  · have hs' : soundB bs N = false := by simpa using hs
    have hE := each_no hbs (by omega) hN a c hs'
    have hR : ReadOK bs a c N [] [] En.zero 11 := fun W h => rread_no hbs (by omega) hN a c hs' W h
    exact ⟨[], [], En.zero, 11, by simp, by simp, by omega, fun W h1 h2 => call_any _ _ a c [] 11 hE (by simp) W h1 h2, fun W h1 h2 => cends_any _ _ a c [] 11 hE (by simp) W h1 h2, fun W h => rall_any hR W h, fun W h => rends_any hR W h⟩

set_option maxRecDepth 100000 in
set_option maxHeartbeats 8000000 in
theorem chunkReads_any (bs : List Nat) (hbs : ∀ b ∈ bs, b < 256) (N : Int) (hN : -9223372036854775808 ≤ N ∧ N ≤ 9223372036854775807) (a : Option Addr) (cap : Nat) (w : World) (hT : TabW w) (hb : SlB w a cap bs) :
    Calls Tryd.prog 15 #[bv a bs.length cap N] w (Ret w (.bool true)) := by
  have HK := hid (fun W hW => known06_any W hW)
  have hmax := len_max hb
  by_cases hlen : (600 : Int) < (bs.length : Int)
  · have hlen1 := hlen
    go_enter Tryd.func15, Tryd.ntmps15
    go_wp2_with (go_at_call 24; (with_reducible refine (HK.out _ (by repeat (first | with_reducible exact hT | with_reducible refine TabW.over ?_ _ | with_reducible refine TabW.alloc ?_ _ | with_reducible refine TabW.drew ?_ | ((with_reducible refine TabW.setCell ?_ ?_ _); rotate_left; (first | (focus (simp; done)) | (focus (simp; omega)))) | ((with_reducible refine TabW.chg ?_ _ ?_); rotate_left; (first | assumption | (focus (simp; done)) | (focus (simp; omega)))) | exact hT))).mono ?_); rintro _ _ ⟨⟨e1, rfl⟩, rfl⟩)
    go_ret
    exact ⟨(by (try unfold Ov); repeat (first | with_reducible exact ex_over | with_reducible exact over_self _ | with_reducible refine ex_undrew ?_ | with_reducible refine ex_into ?_ _ | with_reducible refine ex_alloc ?_ _ | with_reducible refine ex_drew ?_ | ((with_reducible refine ex_setCell ?_ ?_ _); rotate_left; (first | omega | (focus (simp; done)) | (focus (simp; omega)))) | ((with_reducible refine ex_chg ?_ _ ?_); rotate_left; (first | assumption | (exact Hid.out (by assumption)))) | exact ex_over)), rfl⟩
  obtain ⟨xs, us, e, er, hx, hu, her, h1, h2, h3, h4⟩ := reads_ex hbs (by omega) hN a cap
  have HA := hid h1
  have HE := hid h2
  have HB := hid h3
  have HF := hid h4
  have HS := hid (fun a c b d W h1 h2 => rcsame_any xs xs (by omega) a c b d W h1 h2)
  have HN := hid (fun a c b d W h1 h2 => ends_any us (by omega) a c b d W h1 h2)
  rw [decide_eq_true rfl] at HS
  obtain ⟨n0, n1, n2, ⟨n3, n4, n5, n6⟩⟩ := e
  clear h1 h2 h3 h4
  go_enter Tryd.func15, Tryd.ntmps15
  go_wp2_with (first
    | (go_at_call 24; (with_reducible refine (HK.out _ (by repeat (first | with_reducible exact hT | with_reducible refine TabW.over ?_ _ | with_reducible refine TabW.alloc ?_ _ | with_reducible refine TabW.drew ?_ | ((with_reducible refine TabW.setCell ?_ ?_ _); rotate_left; (first | (focus (simp; done)) | (focus (simp; omega)))) | ((with_reducible refine TabW.chg ?_ _ ?_); rotate_left; (first | assumption | (focus (simp; done)) | (focus (simp; omega)))) | exact hT))).mono ?_); rintro _ _ ⟨⟨e1, rfl⟩, rfl⟩)
    | (go_at_call 36; (with_reducible refine (HA.out _ (by repeat (first | with_reducible exact hT | with_reducible refine TabW.over ?_ _ | with_reducible refine TabW.alloc ?_ _ | with_reducible refine TabW.drew ?_ | ((with_reducible refine TabW.setCell ?_ ?_ _); rotate_left; (first | (focus (simp; done)) | (focus (simp; omega)))) | ((with_reducible refine TabW.chg ?_ _ ?_); rotate_left; (first | assumption | (focus (simp; done)) | (focus (simp; omega)))) | exact hT)) (by repeat (first | with_reducible exact hb | with_reducible refine Sl.over ?_ _ | with_reducible refine Sl.alloc ?_ _ | with_reducible refine Sl.drew ?_ | exact hb))).mono ?_); rintro _ _ ⟨v2, rfl, ⟨e2, rfl⟩, o2⟩; obtain ⟨a2, c2, rfl, s2⟩ := Own.slice Sm.cs_len o2; clear o2)
    | (go_at_call 38; (with_reducible refine (HB.out _ (by repeat (first | with_reducible exact hb | with_reducible refine Sl.over ?_ _ | with_reducible refine Sl.alloc ?_ _ | with_reducible refine Sl.drew ?_ | exact hb))).mono ?_); rintro _ _ ⟨v3, rfl, ⟨e3, rfl⟩, o3⟩; obtain ⟨a3, c3, rfl, s3⟩ := Own.slice Sm.cs_len o3; clear o3)
    | (go_at_call 39; (with_reducible refine (HE.out _ (by repeat (first | with_reducible exact hT | with_reducible refine TabW.over ?_ _ | with_reducible refine TabW.alloc ?_ _ | with_reducible refine TabW.drew ?_ | ((with_reducible refine TabW.setCell ?_ ?_ _); rotate_left; (first | (focus (simp; done)) | (focus (simp; omega)))) | ((with_reducible refine TabW.chg ?_ _ ?_); rotate_left; (first | assumption | (focus (simp; done)) | (focus (simp; omega)))) | exact hT)) (by repeat (first | with_reducible exact hb | with_reducible refine Sl.over ?_ _ | with_reducible refine Sl.alloc ?_ _ | with_reducible refine Sl.drew ?_ | exact hb))).mono ?_); rintro _ _ ⟨v4, rfl, ⟨e4, rfl⟩, o4⟩; obtain ⟨a4, c4, rfl, s4⟩ := Own.slice ics_len o4; clear o4)
    | (go_at_call 40; (with_reducible refine (HF.out _ (by repeat (first | with_reducible exact hb | with_reducible refine Sl.over ?_ _ | with_reducible refine Sl.alloc ?_ _ | with_reducible refine Sl.drew ?_ | exact hb))).mono ?_); rintro _ _ ⟨v5, rfl, ⟨e5, rfl⟩, o5⟩; obtain ⟨a5, c5, rfl, s5⟩ := Own.slice ics_len o5; clear o5)
    | (go_at_call 27; (with_reducible refine (HS.out _ _ _ _ _ (by repeat (first | with_reducible exact s2 | with_reducible refine Sl.over ?_ _ | with_reducible refine Sl.alloc ?_ _ | with_reducible refine Sl.drew ?_ | exact s2)) (by repeat (first | with_reducible exact s3 | with_reducible refine Sl.over ?_ _ | with_reducible refine Sl.alloc ?_ _ | with_reducible refine Sl.drew ?_ | exact s3))).mono ?_); rintro _ _ ⟨⟨e6, rfl⟩, rfl⟩)
    | (go_at_call 41; (with_reducible refine (HN.out _ _ _ _ _ (by repeat (first | with_reducible exact s4 | with_reducible refine Sl.over ?_ _ | with_reducible refine Sl.alloc ?_ _ | with_reducible refine Sl.drew ?_ | exact s4)) (by repeat (first | with_reducible exact s5 | with_reducible refine Sl.over ?_ _ | with_reducible refine Sl.alloc ?_ _ | with_reducible refine Sl.drew ?_ | exact s5))).mono ?_); rintro _ _ ⟨⟨e7, rfl⟩, rfl⟩))
  go_ret
  exact ⟨(by (try unfold Ov); repeat (first | with_reducible exact ex_over | with_reducible exact over_self _ | with_reducible refine ex_undrew ?_ | with_reducible refine ex_into ?_ _ | with_reducible refine ex_alloc ?_ _ | with_reducible refine ex_drew ?_ | ((with_reducible refine ex_setCell ?_ ?_ _); rotate_left; (first | omega | (focus (simp; done)) | (focus (simp; omega)))) | ((with_reducible refine ex_chg ?_ _ ?_); rotate_left; (first | assumption | (exact Hid.out (by assumption)))) | exact ex_over)), rfl⟩
end Go.Proofs.YthljlajdkdgieaaDoor
