/- Walks: draymanref06.All, Ends; the lists of ints compared. -/
import Derived.Test.YthljlajdkdgieaaDoorRcR
namespace Go.Proofs.YthljlajdkdgieaaDoor
set_option linter.unusedVariables false
set_option linter.unusedSimpArgs false
open Go.RowKit
attribute [local go_sem] over_drew chg_drew

set_option maxRecDepth 100000 in
set_option maxHeartbeats 4000000 in
theorem rread_no {bs : List Nat} (hbs : ∀ b ∈ bs, b < 256) (hl : bs.length ≤ 1000000) {N : Int} (hN : -9223372036854775808 ≤ N ∧ N ≤ 9223372036854775807) (a : Option Addr) (c : Nat) (hn : soundB bs N = false) (w : World) (hb : SlB w a c bs) :
    Calls Tryd.prog 69 #[bv a bs.length c N] w (ReadPost w [] [] En.zero 11) := by
  have HS := hid (fun W h => rsound_any bs hbs hl N hN a c W h)
  rw [hn] at HS
  go_enter Tryd.func69, Tryd.ntmps69
  go_wp2_with (go_at_call 46; (with_reducible refine (HS.out _ (by repeat (first | with_reducible exact hb | with_reducible refine Sl.over ?_ _ | with_reducible refine Sl.alloc ?_ _ | with_reducible refine Sl.drew ?_ | exact hb))).mono ?_); rintro _ _ ⟨⟨e1, rfl⟩, rfl⟩)
  (try simp only [Exit.inBlock, Exit.then])
  refine bodyPost_ret (v := ?rv122) ?rh122 rfl ?rp122
  case rh122 => (simp only [results, show Tryd.f69.results = #[.tmp 2, .tmp 3, .cell 4 42, .tmp 5] from rfl]; go_simp; rfl)
  exact ⟨_, _, rfl, (by (try unfold Ov); repeat (first | with_reducible exact ex_over | with_reducible exact over_self _ | with_reducible refine ex_undrew ?_ | with_reducible refine ex_into ?_ _ | with_reducible refine ex_alloc ?_ _ | with_reducible refine ex_drew ?_ | ((with_reducible refine ex_setCell ?_ ?_ _); rotate_left; (first | omega | (focus (simp; done)) | (focus (simp; omega)))) | ((with_reducible refine ex_chg ?_ _ ?_); rotate_left; (first | assumption | (exact Hid.out (by assumption)))) | exact ex_over)), Own.nil _, Own.nil _⟩

/-- What the document's read comes to. -/
def ReadOK (bs : List Nat) (a : Option Addr) (c : Nat) (N : Int) (xs : List Sm) (us : List Nat) (e : En) (er : Nat) : Prop :=
  ∀ W, SlB W a c bs → Calls Tryd.prog 69 #[bv a bs.length c N] W (ReadPost W xs us e er)
def RAllPost (w : World) (xs : List Sm) (e : En) (er : Nat) (en : Ending) (w' : World) : Prop :=
  ∃ v, en = .returned (.tuple #[v, e.v, .int .i64 (er : Nat)]) ∧ (∃ x, w' = over w x) ∧ OwnM w.heap.size w' v xs
def REndPost (w : World) (us : List Nat) (er : Nat) (en : Ending) (w' : World) : Prop :=
  ∃ v, en = .returned (.tuple #[v, .int .i64 (er : Nat)]) ∧ (∃ x, w' = over w x) ∧ OwnI w.heap.size w' v us

set_option maxRecDepth 100000 in
set_option maxHeartbeats 4000000 in
theorem rall_any {bs : List Nat} {N : Int} {a : Option Addr} {c : Nat} {xs : List Sm} {us : List Nat} {e : En} {er : Nat} (hr : ReadOK bs a c N xs us e er) (w : World) (hb : SlB w a c bs) :
    Calls Tryd.prog 38 #[bv a bs.length c N] w (RAllPost w xs e er) := by
  obtain ⟨n0, n1, n2, ⟨n3, n4, n5, n6⟩⟩ := e
  have HR : Hid (∀ W, SlB W a c bs → Calls Tryd.prog 69 #[bv a bs.length c N] W (ReadPost W xs us ⟨n0, n1, n2, ⟨n3, n4, n5, n6⟩⟩ er)) := hid hr
  clear hr
  go_enter Tryd.func38, Tryd.ntmps38
  go_wp2_with (go_at_call 69; (with_reducible refine (HR.out _ (by repeat (first | with_reducible exact hb | with_reducible refine Sl.over ?_ _ | with_reducible refine Sl.alloc ?_ _ | with_reducible refine Sl.drew ?_ | exact hb))).mono ?_); rintro _ _ ⟨v9, u9, rfl, ⟨e9, rfl⟩, o9, i9⟩; have HO := hid o9; clear o9 i9)
  obtain ⟨F, hF⟩ : ∃ F, F = [w.heap.size + 1] := ⟨_, rfl⟩
  have i1 : w.heap.size + 1 ∈ F := by rw [hF]; simp
  have i2 : w.heap.size + 1 + 1 + e9.heap.size ∉ F := by rw [hF]; simp; omega
  have i0 : w.heap.size ∉ F := by rw [hF]; simp
  have HF : Hid (∀ i ∈ F, w.heap.size ≤ i) := hid (by rw [hF]; simp)
  have HF2 : Hid (∀ i ∈ F, i < w.heap.size + 1 + 1) := hid (by rw [hF]; simp)
  clear hF
  refine M2.wp_region_mixZ (fun w' => ∃ m : Mut, w' = chg F _ m) [4] 6 (by kernel_rfl) (by kernel_rfl) (by decide) (chg_of (Chg.refl _ _)) ?_
  simp only [List.take_succ_cons, List.take_zero, List.drop_succ_cons, List.drop_zero]
  with_reducible refine M2.mixL_quiet 4 (by kernel_rfl) ?_
  simp only [List.take_succ_cons, List.take_zero, List.drop_succ_cons, List.drop_zero]
  repeat (go_big_quiet_step (fail))
  with_reducible refine wpQuiet_nil ?_
  with_reducible refine M2.mixL_eff (by decide) ?_
  go_wp2_with (fail)
  refine M2.MixQ.mk (chg_of (by repeat (first | with_reducible exact Chg.refl _ _ | (focus (refine ChS.chg ?_; (repeat (first | with_reducible exact ChS.refl _ _ | with_reducible refine ChS.drewl ?_ | with_reducible refine ChS.drewr ?_ | with_reducible refine ChS.over ?_ _ | with_reducible refine chS_chgs ?_ _ | ((with_reducible refine chS_set ?_ _ ?_ _); rotate_left; (first | assumption | (focus (simp; done)) | (focus (simp; assumption)))) | with_reducible refine ChS.alloc ?_ _ | ((with_reducible refine ChS.lit ?_ ?_ _ _); rotate_left; (first | assumption | (focus (simp; done)) | (focus (simp; assumption)))) | with_reducible refine ChS.alloc ?_ _)); done)) | with_reducible refine Chg.alloc ?_ _ | with_reducible refine Chg.drew ?_ | with_reducible refine Chg.on ?_ _ | ((with_reducible refine Chg.setCell ?_ ?_ _); rotate_left; (first | (focus (left; assumption)) | (focus (left; simp; done)) | (focus (right; simp; done)) | (focus (right; simp; omega)) | (focus (left; simp; omega)))) | ((with_reducible refine Chg.in_ ?_ _ ?_); rotate_left; (first | assumption | (focus (intro i hi; left; simp at hi; subst hi; assumption)) | exact fun i hi => Or.inl hi | (focus (intro i hi; left; simp [hi]; done)) | (focus (intro i hi; left; simp at hi ⊢; simp [hi]; done)) | (focus (intro i hi; simp at hi ⊢; simp [hi]; done)) | (focus (intro i hi; simp at hi ⊢; omega))))))) ?_
  with_reducible refine M2.mixL_quiet 1 (by kernel_rfl) ?_
  simp only [List.take_succ_cons, List.take_zero, List.drop_succ_cons, List.drop_zero]
  repeat (go_big_quiet_step (fail))
  with_reducible refine wpQuiet_nil ?_
  with_reducible refine M2.mixL_nil ?_
  with_reducible refine M2.mixL_nil ?_
  go_wp2_with fail
  (try simp only [Exit.inBlock, Exit.then])
  refine bodyPost_ret (v := ?rv123) ?rh123 rfl ?rp123
  case rh123 => (simp only [results, show Tryd.f38.results = #[.tmp 2, .cell 3 42, .tmp 4] from rfl]; go_simp; rfl)
  exact ⟨_, rfl, (by (try unfold Ov); repeat (first | with_reducible exact ex_over | with_reducible exact over_self _ | with_reducible refine ex_undrew ?_ | with_reducible refine ex_into ?_ _ | with_reducible refine ex_alloc ?_ _ | with_reducible refine ex_drew ?_ | ((with_reducible refine ex_setCell ?_ ?_ _); rotate_left; (first | omega | (focus (simp; done)) | (focus (simp; omega)))) | ((with_reducible refine ex_chg ?_ _ ?_); rotate_left; (first | assumption | (exact Hid.out (by assumption)))) | exact ex_over)), Own.mono (Own.drew (Own.alloc (Own.over_swap HO.out (by first | exact Nat.le_refl _ | rfl | omega | (simp; done) | (simp; omega)) (by first | exact Nat.le_refl _ | rfl | omega | (simp; done) | (simp; omega))) _)) (by first | exact Nat.le_refl _ | rfl | omega | (simp; done) | (simp; omega))⟩
set_option maxRecDepth 100000 in
set_option maxHeartbeats 4000000 in
theorem rends_any {bs : List Nat} {N : Int} {a : Option Addr} {c : Nat} {xs : List Sm} {us : List Nat} {e : En} {er : Nat} (hr : ReadOK bs a c N xs us e er) (w : World) (hb : SlB w a c bs) :
    Calls Tryd.prog 40 #[bv a bs.length c N] w (REndPost w us er) := by
  have HR : Hid (∀ W, SlB W a c bs → Calls Tryd.prog 69 #[bv a bs.length c N] W (ReadPost W xs us e er)) := hid hr
  clear hr
  go_enter Tryd.func40, Tryd.ntmps40
  go_wp2_with (go_at_call 69; (with_reducible refine (HR.out _ (by repeat (first | with_reducible exact hb | with_reducible refine Sl.over ?_ _ | with_reducible refine Sl.alloc ?_ _ | with_reducible refine Sl.drew ?_ | exact hb))).mono ?_); rintro _ _ ⟨v9, u9, rfl, ⟨e9, rfl⟩, o9, i9⟩; have HO := hid i9; clear o9 i9)
  (try simp only [Exit.inBlock, Exit.then])
  refine bodyPost_ret (v := ?rv124) ?rh124 rfl ?rp124
  case rh124 => (simp only [results, show Tryd.f40.results = #[.tmp 2, .tmp 3] from rfl]; go_simp; rfl)
  exact ⟨_, rfl, (by (try unfold Ov); repeat (first | with_reducible exact ex_over | with_reducible exact over_self _ | with_reducible refine ex_undrew ?_ | with_reducible refine ex_into ?_ _ | with_reducible refine ex_alloc ?_ _ | with_reducible refine ex_drew ?_ | ((with_reducible refine ex_setCell ?_ ?_ _); rotate_left; (first | omega | (focus (simp; done)) | (focus (simp; omega)))) | ((with_reducible refine ex_chg ?_ _ ?_); rotate_left; (first | assumption | (exact Hid.out (by assumption)))) | exact ex_over)), Own.mono (Own.alloc HO.out _) (by first | exact Nat.le_refl _ | rfl | omega | (simp; done) | (simp; omega))⟩
set_option maxRecDepth 100000 in
set_option maxHeartbeats 4000000 in
theorem ends_any (xs : List Nat) (hl : xs.length ≤ 1000000) (a : Option Addr) (c : Nat) (b : Option Addr) (d : Nat) (w : World) (h1 : SlI w a c xs) (h2 : SlI w b d xs) :
    Calls Tryd.prog 41 #[.slice a xs.length c, .slice b xs.length d] w (Ret w (.bool true)) := by
  go_enter Tryd.func41, Tryd.ntmps41
  go_wp2_with fail
  go_loopw [5] (fun i wr => ∃ (k : Nat), k ≤ xs.length ∧ i = .int .i64 (k : Nat) ∧ Ov w wr) (fun i _ => xs.length - (intOf i).toNat)
  case atStart => exact ⟨0, Nat.zero_le _, rfl, (by (try unfold Ov); repeat (first | with_reducible exact ex_over | with_reducible exact over_self _ | with_reducible refine ex_undrew ?_ | with_reducible refine ex_into ?_ _ | with_reducible refine ex_alloc ?_ _ | with_reducible refine ex_drew ?_ | ((with_reducible refine ex_setCell ?_ ?_ _); rotate_left; (first | omega | (focus (simp; done)) | (focus (simp; omega)))) | ((with_reducible refine ex_chg ?_ _ ?_); rotate_left; (first | assumption | (exact Hid.out (by assumption)))) | exact ex_over))⟩
  case round =>
    obtain ⟨k, hk, rfl, ⟨e0, rfl⟩⟩ := hrel
    by_cases hlt : k < xs.length
    · obtain ⟨b6, o6, rfl, hb6, k0⟩ := SlI.at_ h1 hlt
      obtain ⟨b7, o7, rfl, hb7, j0⟩ := SlI.at_ h2 hlt
      generalize xs[k] = x at *
      go_wp2_with fail
      refine wp_region_over (by kernel_rfl) (by kernel_rfl) ?_
      repeat (go_big_quiet_step ((fail)))
      refine wpQuiet_nil ?_
      intro _ hw'
      obtain ⟨nq, rfl⟩ := hw'
      go_wp2_with fail
      go_roundw
      case rel => exact ⟨k + 1, by omega, by go_num, (by (try unfold Ov); repeat (first | with_reducible exact ex_over | with_reducible exact over_self _ | with_reducible refine ex_undrew ?_ | with_reducible refine ex_into ?_ _ | with_reducible refine ex_alloc ?_ _ | with_reducible refine ex_drew ?_ | ((with_reducible refine ex_setCell ?_ ?_ _); rotate_left; (first | omega | (focus (simp; done)) | (focus (simp; omega)))) | ((with_reducible refine ex_chg ?_ _ ?_); rotate_left; (first | assumption | (exact Hid.out (by assumption)))) | exact ex_over))⟩
      case measure => (simp [intOf]; try omega)
    · obtain rfl : k = xs.length := by omega
      go_wp2_with fail
      go_ret
      exact ⟨(by (try unfold Ov); repeat (first | with_reducible exact ex_over | with_reducible exact over_self _ | with_reducible refine ex_undrew ?_ | with_reducible refine ex_into ?_ _ | with_reducible refine ex_alloc ?_ _ | with_reducible refine ex_drew ?_ | ((with_reducible refine ex_setCell ?_ ?_ _); rotate_left; (first | omega | (focus (simp; done)) | (focus (simp; omega)))) | ((with_reducible refine ex_chg ?_ _ ?_); rotate_left; (first | assumption | (exact Hid.out (by assumption)))) | exact ex_over)), rfl⟩
end Go.Proofs.YthljlajdkdgieaaDoor
