/- Walks: zig's Put. -/
import Derived.Test.YthljlajdkdgieaaDoorZigS
namespace Go.Proofs.YthljlajdkdgieaaDoor
set_option linter.unusedVariables false
set_option linter.unusedSimpArgs false
open Go.RowKit
attribute [local go_sem] over_drew

set_option maxRecDepth 100000 in
set_option maxHeartbeats 4000000 in
/-- zig.Put, on sound bits. -/
theorem zput_yes (l : List Bool) (hl : l.length ≤ 800000) (a : Option Addr) (cap : Nat) (v : Int) (hv : i64ok v) (w : World) (hb : SlB w a cap (pack l)) :
    Calls Tryd.prog 51 #[bv a (pack l).length cap l.length, .int .i64 v] w (PutPost w (l ++ zbits (foldZ v))) := by
  have HF := hid (fun W => zfold_any v hv W)
  have hn := foldZ_lt hv
  generalize foldZ v = n at *
  have HS := hid (fun W => zfirst_any n hn W)
  have hk := zrow_le n
  have hz : zbits n = num (zahead (zrow n)) (zmany (zrow n)) ++ num n (zw (zrow n)) := by unfold zbits; rw [zhead_num hk]
  have ha : zahead (zrow n) ≤ 31 := by
    generalize zrow n = k at *
    match k, hk with
    | 0, _ => decide
    | 1, _ => decide
    | 2, _ => decide
    | 3, _ => decide
    | 4, _ => decide
    | 5, _ => decide
  have hm : zmany (zrow n) ≤ 5 := by
    generalize zrow n = k at *
    match k, hk with
    | 0, _ => decide
    | 1, _ => decide
    | 2, _ => decide
    | 3, _ => decide
    | 4, _ => decide
    | 5, _ => decide
  have hw := zw_le (zrow n)
  rw [hz, ← List.append_assoc]
  generalize zahead (zrow n) = A at *
  generalize zmany (zrow n) = M at *
  generalize zw (zrow n) = W at *
  generalize zrow n = R at *
  clear hz
  have H1 := hid (fun W h => bput_any l (by omega) A M (by omega) (by omega) a cap W h)
  obtain ⟨L, hL⟩ : ∃ L, l ++ num A M = L := ⟨_, rfl⟩
  have hLl : L.length ≤ 900000 := by rw [← hL, List.length_append, num_length]; omega
  rw [hL] at H1 ⊢
  have H2 := hid (fun a c W0 h => bput_any L hLl n W hn hw a c W0 h)
  obtain ⟨L2, hL2⟩ : ∃ L2, L ++ num n W = L2 := ⟨_, rfl⟩
  rw [hL2] at H2 ⊢
  clear hL hL2
  go_enter Tryd.func51, Tryd.ntmps51
  go_wp2_with (first | (go_at_call 77; (with_reducible refine (HF.out _).mono ?_); rintro _ _ ⟨⟨e1, rfl⟩, rfl⟩) | (go_at_call 78; (with_reducible refine (HS.out _).mono ?_); rintro _ _ ⟨⟨e2, rfl⟩, rfl⟩) | (go_at_call 45; (with_reducible refine (H1.out _ (by repeat (first | with_reducible exact hb | with_reducible refine Sl.over ?_ _ | with_reducible refine Sl.alloc ?_ _ | with_reducible refine Sl.drew ?_ | exact hb))).mono ?_); rintro _ _ ⟨a3, c3, rfl, ⟨e3, rfl⟩, ho3⟩; have hs3 := (Own.slice' bcs_len ho3).2; clear ho3 H1) | (go_at_call 45; (with_reducible refine (H2.out _ _ _ (by repeat (first | with_reducible exact hs3 | with_reducible refine Sl.over ?_ _ | with_reducible refine Sl.alloc ?_ _ | with_reducible refine Sl.drew ?_ | exact hs3))).mono ?_); rintro _ _ ⟨a4, c4, rfl, ⟨e4, rfl⟩, ho4⟩; have HO4 := hid ho4; clear ho4))
  (try simp only [Exit.inBlock, Exit.then])
  refine bodyPost_ret (v := ?rv12) ?rh12 rfl ?rp12
  case rh12 => (simp only [results, show Tryd.f51.results = #[.cell 4 29, .tmp 5] from rfl]; go_simp; rfl)
  refine ⟨a4, c4, rfl, (by (try unfold Ov); repeat (first | with_reducible exact ex_over | with_reducible exact over_self _ | with_reducible refine ex_undrew ?_ | with_reducible refine ex_into ?_ _ | with_reducible refine ex_alloc ?_ _ | with_reducible refine ex_drew ?_ | ((with_reducible refine ex_setCell ?_ ?_ _); rotate_left; (first | omega | (focus (simp; done)) | (focus (simp; omega)))) | ((with_reducible refine ex_chg ?_ _ ?_); rotate_left; (first | assumption | (exact Hid.out (by assumption)))) | exact ex_over)), ?_⟩
  exact Own.mono (Own.over_swap HO4.out (by first | exact Nat.le_refl _ | rfl | omega | (simp; done) | (simp; omega)) (by first | exact Nat.le_refl _ | rfl | omega | (simp; done) | (simp; omega))) (by first | exact Nat.le_refl _ | rfl | omega | (simp; done) | (simp; omega))
end Go.Proofs.YthljlajdkdgieaaDoor
