/- Walks: the document's Put of values. -/
import Derived.Test.YthljlajdkdgieaaDoorRxB
import Derived.Test.YthljlajdkdgieaaDoorGC
namespace Go.Proofs.YthljlajdkdgieaaDoor
set_option linter.unusedVariables false
set_option linter.unusedSimpArgs false
open Go.RowKit

section
variable {P : Program} {α : Type} {sz bytes : Nat} {cells : α → List Value} {t e : TypeId}
/-- An append to a slice that a call has just made over the world B. -/
theorem wpList_appendB {ops : Array Oper} {rest : List Oper} {o : Oper} {a : Act} {Q : Exit → Act → World → Prop} (he : ElemOf P t e sz bytes) {w B x0 : World} {v : Value} {ys xs : List α}
    (hc : ∀ y, (cells y).length = sz) (h1c : ∀ y, ∀ u ∈ cells y, u.oneCell' = true) (hgd : o.guard = none) (s x : Operand)
    (ho : o.op = .call { callee := .builtin .append, args := #[s, x], argTypes := #[t, t] })
    (hown : Own B.heap.size e sz cells (over B x0) v ys) (hsv : a.eval s = v) {ad : Option Addr} {cap : Nat} (hxv : a.eval x = .slice ad xs.length cap)
    (hw1 : Ov (over B x0) w) (hs : Sl sz cells w ad cap xs)
    (hlen : ys.length + xs.length ≤ maxLen) (hby : (ys.length + xs.length) * bytes ≤ 140737488355328)
    (h : ∀ v' x, Own B.heap.size e sz cells (over B x) v' (ys ++ xs) → wpList P ops Q rest (a.put o.dst v') (over B x)) :
    wpList P ops Q (o :: rest) a w :=
  wpList_append he hc h1c hgd s x ho hown hsv hxv hw1 (over_trans ⟨x0, rfl⟩ hw1) (Nat.le_refl _) (by simp) hs hlen hby (fun v' x h1 _ _ => h v' x h1)
end

theorem rwrit_any (s : Vl) (hs : s.wf) (hsd : soundV s = true) (v : Nat) (hv : v < 18446744073709551616) (w : World) :
    Calls Tryd.prog 47 #[s.v, .int .u64 (v : Nat)] w (RwPost w (written s v).1 (written s v).2) := by
  cases hh : s.has
  · exact rwrit_new s hs hh v hv w
  · have hl := (soundV_has hsd hh).2.1
    by_cases h0 : v ^^^ s.prev = 0
    · exact rwrit_same s hs hh v hv h0 w
    · cases hb : inBand s.lead s.width (v ^^^ s.prev)
      · exact rwrit_anew s hs hh hl v hv h0 hb w
      · exact rwrit_in s hs hh hl v hv h0 hb w

abbrev rxV (a : Option Addr) (n cap : Nat) (N : Int) (t : Vl) (e : Nat) : Value := .tuple #[bv a n cap N, t.v, .int .i64 (e : Nat)]

set_option maxRecDepth 100000 in
set_option maxHeartbeats 2000000 in
theorem rxput_no (bs : List Nat) (hbs : ∀ b ∈ bs, b < 256) (hl : bs.length ≤ 1000000) (N : Int) (hN : -9223372036854775808 ≤ N ∧ N ≤ 9223372036854775807) (a : Option Addr) (cap : Nat) (s : Vl) (hs : s.wf) (v : Nat) (w : World) (hb : SlB w a cap bs)
    (hn : ¬ wrongX (soundB bs N) (soundV s) = 0) : Calls Tryd.prog 22 #[bv a bs.length cap N, s.v, .int .u64 (v : Nat)] w (Ret w (rxV none 0 0 0 Vl.zero (wrongX (soundB bs N) (soundV s)))) := by
  have H1 := hid (fun W hW => rsound_any bs hbs hl N hN a cap W hW)
  have H2 := hid (fun W => rxsound_any s hs W)
  obtain ⟨hs1, hs2, hs3⟩ := hs
  cases g1 : soundB bs N
  · rw [g1] at H1
    rw [show wrongX false (soundV s) = 11 from rfl]
    clear hn
    go_enter Tryd.func22, Tryd.ntmps22
    go_wp2_with (go_at_call 46; (with_reducible refine (H1.out _ (by repeat (first | with_reducible exact hb | with_reducible refine Sl.over ?_ _ | with_reducible refine Sl.alloc ?_ _ | with_reducible refine Sl.drew ?_ | exact hb))).mono ?_); rintro _ _ ⟨⟨e1, rfl⟩, rfl⟩)
    (try simp only [Exit.inBlock, Exit.then])
    refine bodyPost_ret (v := ?rv73) ?rh73 rfl ?rp73
    case rh73 => (simp only [results, show Tryd.f22.results = #[.cell 6 29, .cell 7 24, .tmp 8] from rfl]; go_simp; rfl)
    exact ⟨(by (try unfold Ov); repeat (first | with_reducible exact ex_over | with_reducible exact over_self _ | with_reducible refine ex_undrew ?_ | with_reducible refine ex_into ?_ _ | with_reducible refine ex_alloc ?_ _ | with_reducible refine ex_drew ?_ | ((with_reducible refine ex_setCell ?_ ?_ _); rotate_left; (first | omega | (focus (simp; done)) | (focus (simp; omega)))) | ((with_reducible refine ex_chg ?_ _ ?_); rotate_left; (first | assumption | (exact Hid.out (by assumption)))) | exact ex_over)), rfl⟩
  · rw [g1] at H1 hn
    cases g2 : soundV s
    · rw [g2] at H2
      rw [show wrongX true false = 30 from rfl]
      clear hn
      go_enter Tryd.func22, Tryd.ntmps22
      go_wp2_with (first | (go_at_call 46; (with_reducible refine (H1.out _ (by repeat (first | with_reducible exact hb | with_reducible refine Sl.over ?_ _ | with_reducible refine Sl.alloc ?_ _ | with_reducible refine Sl.drew ?_ | exact hb))).mono ?_); rintro _ _ ⟨⟨e1, rfl⟩, rfl⟩) | (go_at_call 20; (with_reducible refine (H2.out _).mono ?_); rintro _ _ ⟨⟨e2, rfl⟩, rfl⟩))
      (try simp only [Exit.inBlock, Exit.then])
      refine bodyPost_ret (v := ?rv74) ?rh74 rfl ?rp74
      case rh74 => (simp only [results, show Tryd.f22.results = #[.cell 6 29, .cell 7 24, .tmp 8] from rfl]; go_simp; rfl)
      exact ⟨(by (try unfold Ov); repeat (first | with_reducible exact ex_over | with_reducible exact over_self _ | with_reducible refine ex_undrew ?_ | with_reducible refine ex_into ?_ _ | with_reducible refine ex_alloc ?_ _ | with_reducible refine ex_drew ?_ | ((with_reducible refine ex_setCell ?_ ?_ _); rotate_left; (first | omega | (focus (simp; done)) | (focus (simp; omega)))) | ((with_reducible refine ex_chg ?_ _ ?_); rotate_left; (first | assumption | (exact Hid.out (by assumption)))) | exact ex_over)), rfl⟩
    · rw [g2] at hn
      exact absurd rfl hn

/-- Bits of the call's own, and what is known (the document's). -/
def RxOwn (w : World) (L : List Bool) (t : Vl) (en : Ending) (w' : World) : Prop :=
  ∃ a c, en = .returned (rxV a (pack L).length c L.length t 0) ∧ (∃ e, w' = over w e) ∧ OwnB w.heap.size w' (.slice a (pack L).length c) (pack L)
def RxPost (w : World) (L : List Bool) (t : Vl) (en : Ending) (w' : World) : Prop :=
  ∃ a c, en = .returned (rxV a (pack L).length c L.length t 0) ∧ (∃ e, w' = over w e) ∧ SlB w' a c (pack L)

set_option maxRecDepth 100000 in
set_option maxHeartbeats 4000000 in
theorem rxput_own (l : List Bool) (hl : l.length ≤ 800000) (a : Option Addr) (cap : Nat) (s : Vl) (hs : s.wf) (hsd : soundV s = true) (v : Nat) (hv : v < 18446744073709551616) (w : World) (hb : SlB w a cap (pack l)) :
    Calls Tryd.prog 22 #[bv a (pack l).length cap l.length, s.v, .int .u64 (v : Nat)] w (RxOwn w (l ++ (written s v).1) (written s v).2) := by
  have H1 := hid (fun W hW => rsound_any (pack l) pack_lt (pack_len_le (by omega)) l.length (by omega) a cap W hW)
  rw [sound_pack] at H1
  have H2 := hid (fun W => rxsound_any s hs W)
  rw [hsd] at H2
  have HW := hid (fun W => rwrit_any s hs hsd v hv W)
  have HL := hid (fun W hW => rlist_any l (by omega) a cap W hW)
  have hwl := (written_len hsd hs hv).1
  generalize (written s v).1 = wl at *
  generalize (written s v).2 = t at *
  obtain ⟨L, hL⟩ : ∃ L, l ++ wl = L := ⟨_, rfl⟩
  have hLl : L.length ≤ 1000000 := by rw [← hL, List.length_append]; omega
  have HLL := hid hL
  rw [hL]
  have HO := hid (fun a cap W hW => rof_any L hLl a cap W hW)
  clear hL
  obtain ⟨hs1, hs2, hs3⟩ := hs
  go_enter Tryd.func22, Tryd.ntmps22
  go_wp2_with (first | (go_at_call 46; (with_reducible refine (H1.out _ (by repeat (first | with_reducible exact hb | with_reducible refine Sl.over ?_ _ | with_reducible refine Sl.alloc ?_ _ | with_reducible refine Sl.drew ?_ | exact hb))).mono ?_); rintro _ _ ⟨⟨e1, rfl⟩, rfl⟩) | (go_at_call 20; (with_reducible refine (H2.out _).mono ?_); rintro _ _ ⟨⟨e2, rfl⟩, rfl⟩) | (go_at_call 47; (with_reducible refine (HW.out _).mono ?_); rintro _ _ ⟨v3, rfl, ⟨e3, rfl⟩, ho3⟩; obtain ⟨a3, c3, rfl, s3⟩ := Own.slice tcs_len ho3) | (go_at_call 48; (with_reducible refine (HL.out _ (by repeat (first | with_reducible exact hb | with_reducible refine Sl.over ?_ _ | with_reducible refine Sl.alloc ?_ _ | with_reducible refine Sl.drew ?_ | exact hb))).mono ?_); rintro _ _ ⟨⟨e4, rfl⟩, v4, rfl, ho4⟩) | (at_builtin; refine wpList_appendB byte_elem tcs_len tcs_one rfl (.tmp 34) (.tmp 35) rfl ho4 rfl rfl (by (try unfold Ov); repeat (first | with_reducible exact ex_over | with_reducible exact over_self _ | with_reducible refine ex_undrew ?_ | with_reducible refine ex_into ?_ _ | with_reducible refine ex_alloc ?_ _ | with_reducible refine ex_drew ?_ | ((with_reducible refine ex_setCell ?_ ?_ _); rotate_left; (first | omega | (focus (simp; done)) | (focus (simp; omega)))) | ((with_reducible refine ex_chg ?_ _ ?_); rotate_left; (first | assumption | (exact Hid.out (by assumption)))) | exact ex_over)) (by repeat (first | with_reducible exact s3 | with_reducible refine Sl.over ?_ _ | with_reducible refine Sl.alloc ?_ _ | with_reducible refine Sl.drew ?_ | exact s3)) (by unfold maxLen; omega) (by omega) ?_; intro v' x' hown'; rw [HLL.out] at hown'; obtain ⟨a5, c5, rfl, s5⟩ := Own.slice tcs_len hown'))
  obtain ⟨F, hF⟩ : ∃ F, F = [w.heap.size + 1 + 1, w.heap.size + 1 + 1 + 1] := ⟨_, rfl⟩
  have n1 : w.heap.size + 1 + 1 ∈ F := by rw [hF]; simp
  have n2 : w.heap.size + 1 + 1 + 1 ∈ F := by rw [hF]; simp
  have n3 : w.heap.size + 1 + 1 + 1 + 1 + e1.heap.size + e2.heap.size + e3.heap.size ∉ F := by rw [hF]; simp; omega
  clear hF
  refine M2.wp_region_mixZ (fun w' => ∃ m : Mut, w' = chg F _ m) [1, 3, 4] 6 (by kernel_rfl) (by kernel_rfl) (by decide) (chg_of (Chg.refl _ _)) ?_
  simp only [List.take_succ_cons, List.take_zero, List.drop_succ_cons, List.drop_zero]
  with_reducible refine M2.mixL_quiet 1 (by kernel_rfl) ?_
  simp only [List.take_succ_cons, List.take_zero, List.drop_succ_cons, List.drop_zero]
  repeat (go_big_quiet_step (fail))
  with_reducible refine wpQuiet_nil ?_
  with_reducible refine M2.mixL_eff (by decide) ?_
  go_wp2_with ((go_at_call 49; (with_reducible refine (HO.out _ _ _ (by repeat (first | with_reducible exact s5 | with_reducible refine Sl.over ?_ _ | with_reducible refine Sl.alloc ?_ _ | with_reducible refine Sl.drew ?_ | exact s5))).mono ?_); rintro _ _ ⟨⟨e6, rfl⟩, v6, rfl, a6, c6, rfl, ho6⟩))
  refine M2.MixQ.mk (chg_of (by repeat (first | with_reducible exact Chg.refl _ _ | (focus (refine ChS.chg ?_; (repeat (first | with_reducible exact ChS.refl _ _ | with_reducible refine ChS.drewl ?_ | with_reducible refine ChS.drewr ?_ | with_reducible refine ChS.over ?_ _ | with_reducible refine chS_chgs ?_ _ | ((with_reducible refine chS_set ?_ _ ?_ _); rotate_left; (first | assumption | (focus (simp; done)) | (focus (simp; assumption)))) | with_reducible refine ChS.alloc ?_ _ | ((with_reducible refine ChS.lit ?_ ?_ _ _); rotate_left; (first | assumption | (focus (simp; done)) | (focus (simp; assumption)))) | with_reducible refine ChS.alloc ?_ _)); done)) | with_reducible refine Chg.alloc ?_ _ | with_reducible refine Chg.drew ?_ | with_reducible refine Chg.on ?_ _ | ((with_reducible refine Chg.setCell ?_ ?_ _); rotate_left; (first | (focus (left; assumption)) | (focus (left; simp; done)) | (focus (right; simp; done)) | (focus (right; simp; omega)) | (focus (left; simp; omega)))) | ((with_reducible refine Chg.in_ ?_ _ ?_); rotate_left; (first | assumption | (focus (intro i hi; left; simp at hi; subst hi; assumption)) | exact fun i hi => Or.inl hi | (focus (intro i hi; left; simp [hi]; done)) | (focus (intro i hi; left; simp at hi ⊢; simp [hi]; done)) | (focus (intro i hi; simp at hi ⊢; simp [hi]; done)) | (focus (intro i hi; simp at hi ⊢; omega))))))) ?_
  with_reducible refine M2.mixL_quiet 1 (by kernel_rfl) ?_
  simp only [List.take_succ_cons, List.take_zero, List.drop_succ_cons, List.drop_zero]
  repeat (go_big_quiet_step (fail))
  with_reducible refine wpQuiet_nil ?_
  with_reducible refine M2.mixL_eff (by decide) ?_
  go_wp2_with ((go_at_call 49; (with_reducible refine (HO.out _ _ _ (by repeat (first | with_reducible exact s5 | with_reducible refine Sl.over ?_ _ | with_reducible refine Sl.alloc ?_ _ | with_reducible refine Sl.drew ?_ | exact s5))).mono ?_); rintro _ _ ⟨⟨e6, rfl⟩, v6, rfl, a6, c6, rfl, ho6⟩))
  refine M2.MixQ.mk (chg_of (by repeat (first | with_reducible exact Chg.refl _ _ | (focus (refine ChS.chg ?_; (repeat (first | with_reducible exact ChS.refl _ _ | with_reducible refine ChS.drewl ?_ | with_reducible refine ChS.drewr ?_ | with_reducible refine ChS.over ?_ _ | with_reducible refine chS_chgs ?_ _ | ((with_reducible refine chS_set ?_ _ ?_ _); rotate_left; (first | assumption | (focus (simp; done)) | (focus (simp; assumption)))) | with_reducible refine ChS.alloc ?_ _ | ((with_reducible refine ChS.lit ?_ ?_ _ _); rotate_left; (first | assumption | (focus (simp; done)) | (focus (simp; assumption)))) | with_reducible refine ChS.alloc ?_ _)); done)) | with_reducible refine Chg.alloc ?_ _ | with_reducible refine Chg.drew ?_ | with_reducible refine Chg.on ?_ _ | ((with_reducible refine Chg.setCell ?_ ?_ _); rotate_left; (first | (focus (left; assumption)) | (focus (left; simp; done)) | (focus (right; simp; done)) | (focus (right; simp; omega)) | (focus (left; simp; omega)))) | ((with_reducible refine Chg.in_ ?_ _ ?_); rotate_left; (first | assumption | (focus (intro i hi; left; simp at hi; subst hi; assumption)) | exact fun i hi => Or.inl hi | (focus (intro i hi; left; simp [hi]; done)) | (focus (intro i hi; left; simp at hi ⊢; simp [hi]; done)) | (focus (intro i hi; simp at hi ⊢; simp [hi]; done)) | (focus (intro i hi; simp at hi ⊢; omega))))))) ?_
  with_reducible refine M2.mixL_eff (by decide) ?_
  go_wp2_with ((go_at_call 49; (with_reducible refine (HO.out _ _ _ (by repeat (first | with_reducible exact s5 | with_reducible refine Sl.over ?_ _ | with_reducible refine Sl.alloc ?_ _ | with_reducible refine Sl.drew ?_ | exact s5))).mono ?_); rintro _ _ ⟨⟨e6, rfl⟩, v6, rfl, a6, c6, rfl, ho6⟩))
  refine M2.MixQ.mk (chg_of (by repeat (first | with_reducible exact Chg.refl _ _ | (focus (refine ChS.chg ?_; (repeat (first | with_reducible exact ChS.refl _ _ | with_reducible refine ChS.drewl ?_ | with_reducible refine ChS.drewr ?_ | with_reducible refine ChS.over ?_ _ | with_reducible refine chS_chgs ?_ _ | ((with_reducible refine chS_set ?_ _ ?_ _); rotate_left; (first | assumption | (focus (simp; done)) | (focus (simp; assumption)))) | with_reducible refine ChS.alloc ?_ _ | ((with_reducible refine ChS.lit ?_ ?_ _ _); rotate_left; (first | assumption | (focus (simp; done)) | (focus (simp; assumption)))) | with_reducible refine ChS.alloc ?_ _)); done)) | with_reducible refine Chg.alloc ?_ _ | with_reducible refine Chg.drew ?_ | with_reducible refine Chg.on ?_ _ | ((with_reducible refine Chg.setCell ?_ ?_ _); rotate_left; (first | (focus (left; assumption)) | (focus (left; simp; done)) | (focus (right; simp; done)) | (focus (right; simp; omega)) | (focus (left; simp; omega)))) | ((with_reducible refine Chg.in_ ?_ _ ?_); rotate_left; (first | assumption | (focus (intro i hi; left; simp at hi; subst hi; assumption)) | exact fun i hi => Or.inl hi | (focus (intro i hi; left; simp [hi]; done)) | (focus (intro i hi; left; simp at hi ⊢; simp [hi]; done)) | (focus (intro i hi; simp at hi ⊢; simp [hi]; done)) | (focus (intro i hi; simp at hi ⊢; omega))))))) ?_
  with_reducible refine M2.mixL_quiet 1 (by kernel_rfl) ?_
  simp only [List.take_succ_cons, List.take_zero, List.drop_succ_cons, List.drop_zero]
  repeat (go_big_quiet_step (fail))
  with_reducible refine wpQuiet_nil ?_
  with_reducible refine M2.mixL_nil ?_
  with_reducible refine M2.mixL_nil ?_
  go_wp2
  (try simp only [Exit.inBlock, Exit.then])
  refine bodyPost_ret (v := ?rv75) ?rh75 rfl ?rp75
  case rh75 => (simp only [results, show Tryd.f22.results = #[.cell 6 29, .cell 7 24, .tmp 8] from rfl]; go_simp; rfl)
  refine ⟨a6, c6, rfl, (by (try unfold Ov); repeat (first | with_reducible exact ex_over | with_reducible exact over_self _ | with_reducible refine ex_undrew ?_ | with_reducible refine ex_into ?_ _ | with_reducible refine ex_alloc ?_ _ | with_reducible refine ex_drew ?_ | ((with_reducible refine ex_setCell ?_ ?_ _); rotate_left; (first | omega | (focus (simp; done)) | (focus (simp; omega)))) | ((with_reducible refine ex_chg ?_ _ ?_); rotate_left; (first | assumption | (exact Hid.out (by assumption)))) | exact ex_over)), ?_⟩
  (repeat with_reducible refine Own.drew ?_)
  exact Own.mono (Own.over_swap ho6 (by first | exact Nat.le_refl _ | rfl | omega | (simp; done) | (simp; omega)) (by first | exact Nat.le_refl _ | rfl | omega | (simp; done) | (simp; omega))) (by first | exact Nat.le_refl _ | rfl | omega | (simp; done) | (simp; omega))

theorem rxput_yes (l : List Bool) (hl : l.length ≤ 800000) (a : Option Addr) (cap : Nat) (s : Vl) (hs : s.wf) (hsd : soundV s = true) (v : Nat) (hv : v < 18446744073709551616) (w : World) (hb : SlB w a cap (pack l)) :
    Calls Tryd.prog 22 #[bv a (pack l).length cap l.length, s.v, .int .u64 (v : Nat)] w (RxPost w (l ++ (written s v).1) (written s v).2) :=
  (rxput_own l hl a cap s hs hsd v hv w hb).mono fun _ _ h => by
    obtain ⟨a, c, h1, h2, h3⟩ := h
    exact ⟨a, c, h1, h2, (Own.slice' bcs_len h3).2⟩
end Go.Proofs.YthljlajdkdgieaaDoor
