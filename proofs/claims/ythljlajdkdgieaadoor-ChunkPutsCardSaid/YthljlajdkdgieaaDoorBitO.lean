/- Walks: bit.begin, Put. -/
import Derived.Test.YthljlajdkdgieaaDoorBitN
namespace Go.Proofs.YthljlajdkdgieaaDoor
set_option linter.unusedVariables false
set_option linter.unusedSimpArgs false
open Go.RowKit

set_option maxHeartbeats 400000 in
theorem cloneB_any (xs : List Nat) (a : Option Addr) (cap : Nat) (w : World) (hs : SlB w a cap xs) (hb : xs.length ≤ 2000000) :
    Calls Tryd.prog 86 #[.slice a xs.length cap] w (Gives w fun v w' => OwnB w.heap.size w' v xs) := by
  rcases a with _ | ad
  · obtain rfl : cap = 0 := hs.nul rfl
    obtain rfl : xs = [] := by
      cases xs with
      | nil => rfl
      | cons x l => obtain ⟨b, off, h, _⟩ := hs.rec_ 0 x rfl; cases h
    have q := fun (W : World) => run_eql_slice_nil0 (P := Tryd.prog) (t := 27) byte_elem.ht W none 0 0
    go_enter Tryd.func86, Tryd.ntmps86
    go_wp2
    go_ret
    exact ⟨over_self w, _, rfl, Own.nil w⟩
  · have q := fun (W : World) => run_eql_slice_nil0 (P := Tryd.prog) (t := 27) byte_elem.ht W (some ad) xs.length cap
    go_enter Tryd.func86, Tryd.ntmps86
    go_wp2_with (at_builtin; refine wpList_append byte_elem bcs_len bcs_one rfl (.tmp 5) (.tmp 6) rfl (B := w) (ys := []) (xs := xs) (Own.made _) rfl rfl (over_self _) (by (try unfold Ov); repeat (first | with_reducible exact ex_over | with_reducible exact over_self _ | with_reducible refine ex_undrew ?_ | with_reducible refine ex_into ?_ _ | with_reducible refine ex_alloc ?_ _ | with_reducible refine ex_drew ?_ | ((with_reducible refine ex_setCell ?_ ?_ _); rotate_left; (first | omega | (focus (simp; done)) | (focus (simp; omega)))) | ((with_reducible refine ex_chg ?_ _ ?_); rotate_left; (first | assumption | (exact Hid.out (by assumption)))) | exact ex_over)) (Nat.le_refl _) (by simp) (by repeat (first | with_reducible exact hs | with_reducible refine Sl.over ?_ _ | with_reducible refine Sl.alloc ?_ _ | with_reducible refine Sl.drew ?_ | exact hs)) (by unfold maxLen; simp; omega) (by simp; omega) ?_; intro v' x' hown' _ _)
    go_ret
    exact ⟨(by (try unfold Ov); repeat (first | with_reducible exact ex_over | with_reducible exact over_self _ | with_reducible refine ex_undrew ?_ | with_reducible refine ex_into ?_ _ | with_reducible refine ex_alloc ?_ _ | with_reducible refine ex_drew ?_ | ((with_reducible refine ex_setCell ?_ ?_ _); rotate_left; (first | omega | (focus (simp; done)) | (focus (simp; omega)))) | ((with_reducible refine ex_chg ?_ _ ?_); rotate_left; (first | assumption | (exact Hid.out (by assumption)))) | exact ex_over)), _, rfl, hown'⟩

theorem Blk.new' {w : World} {cs : List Value} {t : TypeId} {n : Nat} (h : n = w.heap.size) : Blk (w.alloc (.cells cs.toArray t)) n cs t := h ▸ Blk.new w cs t
/-- A new writer. -/
def WrNew (w : World) (l : List Bool) (en : Ending) (w' : World) : Prop := ∃ p F, en = .returned (.pointer (some ⟨p, 0, none⟩)) ∧ (∃ e, w' = over w e) ∧ WrAt w.heap.size w' p l F

set_option maxRecDepth 100000 in
set_option maxHeartbeats 1000000 in
theorem begin_any (l : List Bool) (hl : l.length ≤ 900000) (a : Option Addr) (cap : Nat) (w : World) (hs : SlB w a cap (pack l)) :
    Calls Tryd.prog 73 #[bv a (pack l).length cap l.length] w (WrNew w l) := by
  have HC := hid (fun W hW => cloneB_any (pack l) a cap W hW (pack_len_le (by omega)))
  go_enter Tryd.func73, Tryd.ntmps73
  go_wp2
  refine M2.wp_region_mix [2, 7] 9 (by kernel_rfl) (by kernel_rfl) (by decide) ?_
  simp only [List.take_succ_cons, List.take_zero, List.drop_succ_cons, List.drop_zero]
  with_reducible refine M2.mixL_quiet 2 (by kernel_rfl) ?_
  simp only [List.take_succ_cons, List.take_zero, List.drop_succ_cons, List.drop_zero]
  repeat (go_big_quiet_step (fail))
  with_reducible refine wpQuiet_nil ?_
  with_reducible refine M2.mixL_eff (by decide) ?_
  go_wp2_with ((go_at_call 86; (with_reducible refine (HC.out _ (by repeat (first | with_reducible exact hs | with_reducible refine Sl.over ?_ _ | with_reducible refine Sl.alloc ?_ _ | with_reducible refine Sl.drew ?_ | exact hs))).mono ?_); rintro _ _ ⟨⟨e1, rfl⟩, v1, rfl, o1⟩; obtain ⟨a1, c1, rfl, s1⟩ := Own.slice bcs_len o1))
  refine M2.MixQ.mk (by (try unfold Ov); repeat (first | with_reducible exact ex_over | with_reducible exact over_self _ | with_reducible refine ex_undrew ?_ | with_reducible refine ex_into ?_ _ | with_reducible refine ex_alloc ?_ _ | with_reducible refine ex_drew ?_ | ((with_reducible refine ex_setCell ?_ ?_ _); rotate_left; (first | omega | (focus (simp; done)) | (focus (simp; omega)))) | ((with_reducible refine ex_chg ?_ _ ?_); rotate_left; (first | assumption | (exact Hid.out (by assumption)))) | exact ex_over)) ?_
  with_reducible refine M2.mixL_quiet 4 (by kernel_rfl) ?_
  simp only [List.take_succ_cons, List.take_zero, List.drop_succ_cons, List.drop_zero]
  repeat (go_big_quiet_step (fail))
  with_reducible refine wpQuiet_nil ?_
  with_reducible refine M2.mixL_eff (by decide) ?_
  go_wp2_with ((go_at_call 86; (with_reducible refine (HC.out _ (by repeat (first | with_reducible exact hs | with_reducible refine Sl.over ?_ _ | with_reducible refine Sl.alloc ?_ _ | with_reducible refine Sl.drew ?_ | exact hs))).mono ?_); rintro _ _ ⟨⟨e1, rfl⟩, v1, rfl, o1⟩; obtain ⟨a1, c1, rfl, s1⟩ := Own.slice bcs_len o1))
  refine M2.MixQ.mk (by (try unfold Ov); repeat (first | with_reducible exact ex_over | with_reducible exact over_self _ | with_reducible refine ex_undrew ?_ | with_reducible refine ex_into ?_ _ | with_reducible refine ex_alloc ?_ _ | with_reducible refine ex_drew ?_ | ((with_reducible refine ex_setCell ?_ ?_ _); rotate_left; (first | omega | (focus (simp; done)) | (focus (simp; omega)))) | ((with_reducible refine ex_chg ?_ _ ?_); rotate_left; (first | assumption | (exact Hid.out (by assumption)))) | exact ex_over)) ?_
  with_reducible refine M2.mixL_quiet 1 (by kernel_rfl) ?_
  simp only [List.take_succ_cons, List.take_zero, List.drop_succ_cons, List.drop_zero]
  repeat (go_big_quiet_step (fail))
  with_reducible refine wpQuiet_nil ?_
  with_reducible refine M2.mixL_nil ?_
  with_reducible refine M2.mixL_nil ?_
  go_wp2
  go_ret
  have o2 := Own.mono (base' := w.heap.size) o1 (by simp)
  refine ⟨_, _, rfl, (by (try unfold Ov); repeat (first | with_reducible exact ex_over | with_reducible exact over_self _ | with_reducible refine ex_undrew ?_ | with_reducible refine ex_into ?_ _ | with_reducible refine ex_alloc ?_ _ | with_reducible refine ex_drew ?_ | ((with_reducible refine ex_setCell ?_ ?_ _); rotate_left; (first | omega | (focus (simp; done)) | (focus (simp; omega)))) | ((with_reducible refine ex_chg ?_ _ ?_); rotate_left; (first | assumption | (exact Hid.out (by assumption)))) | exact ex_over)), _, Blk.new' (by simp), (by repeat (first | with_reducible exact o2 | ((with_reducible refine Own.set_ne ?_ ?_ _); rotate_left; (first | assumption | (focus (simp; done)) | (focus (simp [Value.ownBlock]; done)) | (focus (simp [Value.ownBlock]; omega)))) | ((with_reducible refine Own.in_some ?_ _ ?_); rotate_left; (first | assumption | (focus (simp; done)) | (focus (simp; omega)))) | ((with_reducible refine Own.in_one ?_ _ ?_); rotate_left; (first | assumption | (focus (simp [Value.ownBlock]; done)) | (focus (simp [Value.ownBlock]; omega)))) | ((with_reducible refine Own.chg ?_ (chg_chg _ _ _) ?_); rotate_left; (first | assumption | (focus (simp; done)) | (focus (simp; omega)))) | with_reducible refine Own.over ?_ _ | with_reducible refine Own.alloc ?_ _ | with_reducible refine Own.drew ?_ | exact o2)), by omega, ?_, rfl⟩
  intro hm
  have := (Own.lt o1 hm).2
  simp at this

/-- A writer in memory that is newer than a world. -/
def HasWr (w1 : World) (p : Nat) (l : List Bool) (w : World) : Prop := ∃ e F, w = over w1 e ∧ WrAt w1.heap.size w p l F
def WrOv (w1 : World) (p : Nat) (l : List Bool) (en : Ending) (w' : World) : Prop := en = .returned (.tuple #[]) ∧ HasWr w1 p l w'
theorem WrDid.ov {w w1 w' : World} {p : Nat} {l' : List Bool} {F : List Nat} {en : Ending} (h : WrDid w1.heap.size w p F l' en w') (hw : ∃ e, w = over w1 e) (hF : ∀ i ∈ F, w1.heap.size ≤ i) : WrOv w1 p l' en w' := by
  obtain ⟨h1, m, F', h2, h3, _⟩ := h
  obtain ⟨e, he⟩ := ex_chg hw m hF
  exact ⟨h1, e, F', by rw [h2, he], h3⟩
theorem WrNew.ov {w w' : World} {l : List Bool} {en : Ending} (h : WrNew w l en w') : ∃ p, en = .returned (.pointer (some ⟨p, 0, none⟩)) ∧ HasWr w p l w' := by
  obtain ⟨p, F, h1, ⟨e, h2⟩, h3⟩ := h
  exact ⟨p, h1, e, F, h2, h3⟩
theorem number_ov {w1 w : World} {p : Nat} {l : List Bool} (h : HasWr w1 p l w) (hl : l.length ≤ 900000) (v W : Nat) (hv : v < 18446744073709551616) (hW : W ≤ 64) :
    Calls Tryd.prog 74 #[.pointer (some ⟨p, 0, none⟩), .int .u64 (v : Nat), .int .i64 (W : Nat)] w (WrOv w1 p (l ++ num v W)) := by
  obtain ⟨e, F, rfl, h⟩ := h
  exact (number_any h hl v W hv hW (by simp)).mono fun _ _ hd => hd.ov ⟨e, rfl⟩ (fun i hi => (h.lt i hi).1)
theorem lay_ov {w1 w : World} {p : Nat} {l : List Bool} (h : HasWr w1 p l w) (hl : l.length ≤ 1000000) (b n : Nat) (hb : b < 256) (hn : n ≤ 8) :
    Calls Tryd.prog 70 #[.pointer (some ⟨p, 0, none⟩), .int .u8 (b : Nat), .int .i64 (n : Nat)] w (WrOv w1 p (l ++ hi b n)) := by
  obtain ⟨e, F, rfl, h⟩ := h
  exact (lay_any h hl b n hb hn (by simp)).mono fun _ _ hd => hd.ov ⟨e, rfl⟩ (fun i hi => (h.lt i hi).1)
/-- Such a writer, opened. -/
theorem HasWr.open_ {w1 w : World} {p : Nat} {l : List Bool} (h : HasWr w1 p l w) : ∃ e a c, w = over w1 e ∧ w1.heap.size ≤ p ∧ p < (over w1 e).heap.size ∧ (over w1 e).cell? ⟨p, 0, none⟩ = some (.slice a (pack l).length c) ∧ (over w1 e).cell? ⟨p, 1, none⟩ = some (.int .i64 (l.length : Nat)) ∧ OwnB w1.heap.size (over w1 e) (.slice a (pack l).length c) (pack l) := by
  obtain ⟨e, F, rfl, v, b3, o3, p3, q3, rfl⟩ := h
  obtain ⟨a3, c3, rfl, s3⟩ := Own.slice bcs_len o3
  exact ⟨e, a3, c3, rfl, p3, b3.lt, b3.cell 0 rfl, b3.cell 1 rfl, o3⟩

/-- Bits of the call's own, an error. -/
def PutPost (w : World) (l : List Bool) (en : Ending) (w' : World) : Prop :=
  ∃ a c, en = .returned (.tuple #[bv a (pack l).length c l.length, .int .u16 0]) ∧ (∃ e, w' = over w e) ∧ OwnB w.heap.size w' (.slice a (pack l).length c) (pack l)

set_option maxRecDepth 100000 in
set_option maxHeartbeats 2000000 in
theorem bput_any (l : List Bool) (hl : l.length ≤ 900000) (v W : Nat) (hv : v < 18446744073709551616) (hW : W ≤ 64) (a : Option Addr) (cap : Nat) (w : World) (hs : SlB w a cap (pack l)) :
    Calls Tryd.prog 45 #[bv a (pack l).length cap l.length, .int .u64 (v : Nat), .int .i64 (W : Nat)] w (PutPost w (l ++ num v W)) := by
  obtain ⟨L, hL⟩ : ∃ L, l ++ num v W = L := ⟨_, rfl⟩
  rw [hL]
  have HL := hid hL
  clear hL
  have HS := hid (fun W hW => sound_any (pack l) pack_lt (pack_len_le (by omega)) l.length (by omega) a cap W hW)
  rw [sound_pack] at HS
  have HB := hid (fun W hW => begin_any l hl a cap W hW)
  go_enter Tryd.func45, Tryd.ntmps45
  go_wp2_with (first | (go_at_call 37; (with_reducible refine (HS.out _ (by repeat (first | with_reducible exact hs | with_reducible refine Sl.over ?_ _ | with_reducible refine Sl.alloc ?_ _ | with_reducible refine Sl.drew ?_ | exact hs))).mono ?_); rintro _ _ ⟨⟨e1, rfl⟩, rfl⟩) | (go_at_call 73; (with_reducible refine (HB.out _ (by repeat (first | with_reducible exact hs | with_reducible refine Sl.over ?_ _ | with_reducible refine Sl.alloc ?_ _ | with_reducible refine Sl.drew ?_ | exact hs))).mono ?_); rintro _ _ hw2; obtain ⟨p, rfl, hw3⟩ := hw2.ov; have HW := hid hw3; clear hw2 hw3) | (go_at_call 74; (with_reducible refine (number_ov HW.out hl v W hv hW).mono ?_); rintro _ _ ⟨rfl, hw4⟩; rw [HL.out] at hw4; obtain ⟨e4, a4, c4, rfl, p4, q4, k0, k1, o4⟩ := hw4.open_; have O4 := hid o4; clear hw4 o4))
  (try simp only [Exit.inBlock, Exit.then])
  refine bodyPost_ret (v := ?rv2) ?rh2 rfl ?rp2
  case rh2 => (simp only [results, show Tryd.f45.results = #[.cell 6 29, .tmp 7] from rfl]; go_simp; rfl)
  exact ⟨a4, c4, rfl, (by (try unfold Ov); repeat (first | with_reducible exact ex_over | with_reducible exact over_self _ | with_reducible refine ex_undrew ?_ | with_reducible refine ex_into ?_ _ | with_reducible refine ex_alloc ?_ _ | with_reducible refine ex_drew ?_ | ((with_reducible refine ex_setCell ?_ ?_ _); rotate_left; (first | omega | (focus (simp; done)) | (focus (simp; omega)))) | ((with_reducible refine ex_chg ?_ _ ?_); rotate_left; (first | assumption | (exact Hid.out (by assumption)))) | exact ex_over)), Own.mono (Own.over_swap O4.out (by simp) (Nat.le_refl _)) (by simp; omega)⟩
end Go.Proofs.YthljlajdkdgieaaDoor
