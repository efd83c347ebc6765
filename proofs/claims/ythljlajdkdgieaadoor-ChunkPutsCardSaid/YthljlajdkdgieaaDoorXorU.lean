/- Walks: xor.Put. -/
import Derived.Test.YthljlajdkdgieaaDoorXorV
namespace Go.Proofs.YthljlajdkdgieaaDoor
set_option linter.unusedVariables false
set_option linter.unusedSimpArgs false
open Go.RowKit

theorem write_any (s : Vl) (hs : s.wf) (hsd : soundV s = true) (v : Nat) (hv : v < 18446744073709551616) (w : World) (hT : TabW w) :
    Calls Tryd.prog 44 #[s.v, .int .u64 (v : Nat)] w (WrtPost w (wparts s v) (written s v).2) := by
  cases hh : s.has
  · exact write_new s hs hh v hv w
  · have hl := (soundV_has hsd hh).2.1
    by_cases h0 : v ^^^ s.prev = 0
    · exact write_same s hs hh hl v hv h0 w
    · cases hb : inBand s.lead s.width (v ^^^ s.prev)
      · exact write_anew s hs hh hl v hv h0 hb w hT
      · exact write_in s hs hh hl v hv h0 hb w hT

/-- Bits and what is known; an error. -/
abbrev xpV (a : Option Addr) (n cap : Nat) (N : Int) (t : Vl) (e : Nat) : Value := .tuple #[bv a n cap N, t.v, .int .u16 (e : Nat)]

set_option maxRecDepth 100000 in
set_option maxHeartbeats 2000000 in
theorem xput_no (bs : List Nat) (hbs : ∀ b ∈ bs, b < 256) (hl : bs.length ≤ 1000000) (N : Int) (hN : -9223372036854775808 ≤ N ∧ N ≤ 9223372036854775807) (a : Option Addr) (cap : Nat) (s : Vl) (hs : s.wf) (v : Nat) (w : World) (hb : SlB w a cap bs)
    (hn : ¬ wrongX (soundB bs N) (soundV s) = 0) : Calls Tryd.prog 21 #[bv a bs.length cap N, s.v, .int .u64 (v : Nat)] w (Ret w (xpV none 0 0 0 Vl.zero (wrongX (soundB bs N) (soundV s)))) := by
  have HW := hid (fun W hW => xwrong_any bs hbs hl N hN a cap s hs W hW)
  generalize wrongX (soundB bs N) (soundV s) = e at *
  have hn' : ((e : Int) != 0) = true := by simp; exact hn
  go_enter Tryd.func21, Tryd.ntmps21
  go_wp2_with (go_at_call 43; (with_reducible refine (HW.out _ (by repeat (first | with_reducible exact hb | with_reducible refine Sl.over ?_ _ | with_reducible refine Sl.alloc ?_ _ | with_reducible refine Sl.drew ?_ | exact hb))).mono ?_); rintro _ _ ⟨⟨e1, rfl⟩, rfl⟩)
  (try simp only [Exit.inBlock, Exit.then])
  refine bodyPost_ret (v := ?rv13) ?rh13 rfl ?rp13
  case rh13 => (simp only [results, show Tryd.f21.results = #[.cell 6 29, .cell 7 24, .tmp 8] from rfl]; go_simp; rfl)
  exact ⟨(by (try unfold Ov); repeat (first | with_reducible exact ex_over | with_reducible exact over_self _ | with_reducible refine ex_undrew ?_ | with_reducible refine ex_into ?_ _ | with_reducible refine ex_alloc ?_ _ | with_reducible refine ex_drew ?_ | ((with_reducible refine ex_setCell ?_ ?_ _); rotate_left; (first | omega | (focus (simp; done)) | (focus (simp; omega)))) | ((with_reducible refine ex_chg ?_ _ ?_); rotate_left; (first | assumption | (exact Hid.out (by assumption)))) | exact ex_over)), rfl⟩

/-- Bits of older memory (then the first ones), or of a call's own from block n on. -/
def BitsIn (l0 : List Bool) (w : World) (n : Nat) (wr : World) (a : Option Addr) (c : Nat) (L : List Bool) : Prop := (SlB w a c (pack L) ∧ L = l0) ∨ OwnB n wr (.slice a (pack L).length c) (pack L)
theorem BitsIn.sl {l0 : List Bool} {w wr : World} {n : Nat} {a : Option Addr} {c : Nat} {L : List Bool} (h : BitsIn l0 w n wr a c L) (ho : ∃ e, wr = over w e) : SlB wr a c (pack L) := by
  rcases h with h | h
  · obtain ⟨e, rfl⟩ := ho; exact h.1.over e
  · exact (Own.slice' bcs_len h).2
theorem BitsIn.swap {l0 : List Bool} {w X X' e : World} {n : Nat} {a : Option Addr} {c : Nat} {L : List Bool} (h : BitsIn l0 w n (over X e) a c L) (hs : X'.heap.size = X.heap.size) (hb : X.heap.size ≤ n) : BitsIn l0 w n (over X' e) a c L := by
  rcases h with h | h
  · exact .inl h
  · exact .inr (Own.over_swap h hs hb)
theorem BitsIn.own {l0 : List Bool} {w wr : World} {n : Nat} {a : Option Addr} {c : Nat} {L : List Bool} (h : BitsIn l0 w n wr a c L) (hl : L ≠ l0) : OwnB n wr (.slice a (pack L).length c) (pack L) := by
  rcases h with h | h
  · exact absurd h.2 hl
  · exact h
/-- The state of xor.Put's loop: its first box has the bits. -/
def XpRel (l0 : List Bool) (w : World) (s : Vl) (ps : List Pt) (a2 : Option Addr) (c2 : Nat) (L : List Bool) (wr : World) : Prop :=
  ∃ a c, (∃ e, wr = over ((((w.alloc (.cells #[.slice a (pack L).length c, .int .i64 (L.length : Nat)] 29)).alloc (.cells #[.bool s.has, .int .u64 (s.prev : Nat), .int .u8 (s.lead : Nat), .int .u8 (s.width : Nat)] 24)).alloc (.cells #[.slice none 0 0, .int .i64 0] 29)).alloc (.cells #[.bool false, .int .u64 0, .int .u8 0, .int .u8 0] 24)) e) ∧ BitsIn l0 w (w.heap.size + 1 + 1 + 1 + 1) wr a c L ∧ SlPt wr a2 c2 ps ∧ ∀ ad, a2 = some ad → w.heap.size + 1 + 1 + 1 + 1 ≤ ad.block

def XpPost (w : World) (L : List Bool) (t : Vl) (en : Ending) (w' : World) : Prop :=
  ∃ a c, en = .returned (xpV a (pack L).length c L.length t 0) ∧ (∃ e, w' = over w e) ∧ SlB w' a c (pack L)
/-- The same; the bits are the call's own. -/
def XpOwn (w : World) (L : List Bool) (t : Vl) (en : Ending) (w' : World) : Prop :=
  ∃ a c, en = .returned (xpV a (pack L).length c L.length t 0) ∧ (∃ e, w' = over w e) ∧ OwnB w.heap.size w' (.slice a (pack L).length c) (pack L)
theorem XpOwn.post {w w' : World} {L : List Bool} {t : Vl} {en : Ending} (h : XpOwn w L t en w') : XpPost w L t en w' := by
  obtain ⟨a, c, h1, h2, h3⟩ := h
  exact ⟨a, c, h1, h2, (Own.slice' bcs_len h3).2⟩

theorem ptBits_take {ps : List Pt} {k : Nat} (h : k < ps.length) : ptBits (ps.take (k + 1)) = ptBits (ps.take k) ++ num ps[k].v ps[k].width := by
  rw [← take_succ_get h]; unfold ptBits; rw [List.flatMap_append]; simp
theorem ptBits_le {ps : List Pt} (h : ∀ p ∈ ps, p.width ≤ 64) : (ptBits ps).length ≤ 64 * ps.length := by
  induction ps with
  | nil => simp [ptBits]
  | cons p ps ih =>
    have h1 := ih fun q hq => h q (by simp [hq])
    have h2 := h p (by simp)
    simp only [ptBits, List.flatMap_cons, List.length_append, num_length, List.length_cons] at *
    omega
theorem SlPt.at_ {w : World} {a : Option Addr} {cap : Nat} {xs : List Pt} (h : SlPt w a cap xs) {k : Nat} (hk : k < xs.length) :
    ∃ b off, a = some ⟨b, off, none⟩ ∧ b < w.heap.size ∧ w.cell? ⟨b, off + k * 2, none⟩ = some (.int .u64 (xs[k].v : Nat)) ∧ w.cell? ⟨b, off + k * 2 + 1, none⟩ = some (.int .i64 (xs[k].width : Nat)) := by
  obtain ⟨b, off, rfl, hb, hcell⟩ := h.rec_ k xs[k] (List.getElem?_eq_getElem hk)
  exact ⟨b, off, rfl, hb, hcell 0 _ rfl, hcell 1 _ rfl⟩

set_option maxRecDepth 100000 in
set_option maxHeartbeats 4000000 in
theorem xput_own (l : List Bool) (hl : l.length ≤ 800000) (a : Option Addr) (cap : Nat) (s : Vl) (hs : s.wf) (hsd : soundV s = true) (v : Nat) (hv : v < 18446744073709551616) (w : World) (hb : SlB w a cap (pack l)) (hT : TabW w) :
    Calls Tryd.prog 21 #[bv a (pack l).length cap l.length, s.v, .int .u64 (v : Nat)] w (XpOwn w (l ++ (written s v).1) (written s v).2) := by
  have HW := hid (fun W hW => xwrong_any (pack l) pack_lt (pack_len_le (by omega)) l.length (by omega) a cap s hs W hW)
  rw [sound_pack, hsd, show wrongX true true = 0 from rfl] at HW
  have HR := hid (fun W hW => write_any s hs hsd v hv W hW)
  have hok := wparts_ok hsd hs hv
  have hne := (written_len hsd hs hv).2
  rw [← wparts_bits] at hne
  rw [← wparts_bits]
  have hpl : (wparts s v).length ≤ 4 := by unfold wparts; repeat' split
                                           all_goals simp
  generalize wparts s v = ps at *
  generalize (written s v).2 = t at *
  have HOK := hid hok
  clear hok
  obtain ⟨hs1, hs2, hs3⟩ := hs
  go_enter Tryd.func21, Tryd.ntmps21
  go_wp2_with (first | (go_at_call 43; (with_reducible refine (HW.out _ (by repeat (first | with_reducible exact hb | with_reducible refine Sl.over ?_ _ | with_reducible refine Sl.alloc ?_ _ | with_reducible refine Sl.drew ?_ | exact hb))).mono ?_); rintro _ _ ⟨⟨e1, rfl⟩, rfl⟩) | (go_at_call 44; (with_reducible refine (HR.out _ (by repeat (first | with_reducible exact hT | with_reducible refine TabW.over ?_ _ | with_reducible refine TabW.alloc ?_ _ | with_reducible refine TabW.drew ?_ | ((with_reducible refine TabW.setCell ?_ ?_ _); rotate_left; (first | (focus (simp; done)) | (focus (simp; omega)))) | ((with_reducible refine TabW.chg ?_ _ ?_); rotate_left; (first | assumption | (focus (simp; done)) | (focus (simp; omega)))) | exact hT))).mono ?_); rintro _ _ ⟨a2, c2, rfl, ⟨e2, rfl⟩, hp2, hn2⟩; have HP := hid hp2; have HN := hid hn2; clear hp2 hn2))
  go_loopw [29] (fun i wr => ∃ (k : Nat), k ≤ ps.length ∧ i = .int .i64 k ∧ XpRel l w t ps a2 c2 (l ++ ptBits (ps.take k)) wr) (fun i _ => ps.length - (intOf i).toNat)
  case atStart =>
    refine ⟨0, Nat.zero_le _, rfl, ?_⟩
    rw [List.take_zero, show ptBits [] = [] from rfl, List.append_nil]
    refine ⟨a, cap, (by (try unfold Ov); repeat (first | with_reducible exact ex_over | with_reducible exact over_self _ | with_reducible refine ex_undrew ?_ | with_reducible refine ex_into ?_ _ | with_reducible refine ex_alloc ?_ _ | with_reducible refine ex_drew ?_ | ((with_reducible refine ex_setCell ?_ ?_ _); rotate_left; (first | omega | (focus (simp; done)) | (focus (simp; omega)))) | ((with_reducible refine ex_chg ?_ _ ?_); rotate_left; (first | assumption | (exact Hid.out (by assumption)))) | exact ex_over)), .inl ⟨hb, rfl⟩, Sl.chg (F := [w.heap.size + 1]) HP.out (by repeat (first | with_reducible exact Chg.refl _ _ | (focus (refine ChS.chg ?_; (repeat (first | with_reducible exact ChS.refl _ _ | with_reducible refine ChS.drewl ?_ | with_reducible refine ChS.drewr ?_ | with_reducible refine ChS.over ?_ _ | with_reducible refine chS_chgs ?_ _ | ((with_reducible refine chS_set ?_ _ ?_ _); rotate_left; (first | assumption | (focus (simp; done)) | (focus (simp; assumption)))) | with_reducible refine ChS.alloc ?_ _ | ((with_reducible refine ChS.lit ?_ ?_ _ _); rotate_left; (first | assumption | (focus (simp; done)) | (focus (simp; assumption)))) | with_reducible refine ChS.alloc ?_ _)); done)) | with_reducible refine Chg.alloc ?_ _ | with_reducible refine Chg.drew ?_ | with_reducible refine Chg.on ?_ _ | ((with_reducible refine Chg.setCell ?_ ?_ _); rotate_left; (first | (focus (left; assumption)) | (focus (left; simp; done)) | (focus (right; simp; done)) | (focus (right; simp; omega)) | (focus (left; simp; omega)))) | ((with_reducible refine Chg.in_ ?_ _ ?_); rotate_left; (first | assumption | (focus (intro i hi; left; simp at hi; subst hi; assumption)) | exact fun i hi => Or.inl hi | (focus (intro i hi; left; simp [hi]; done)) | (focus (intro i hi; left; simp at hi ⊢; simp [hi]; done)) | (focus (intro i hi; simp at hi ⊢; simp [hi]; done)) | (focus (intro i hi; simp at hi ⊢; omega)))))) (fun ad h hm => by have := HN.out ad h; simp at this hm; omega), fun ad h => by have := HN.out ad h; simp at this; omega⟩
  case round =>
    obtain ⟨k, hk, rfl, a5, c5, ⟨e5, rfl⟩, hb5, hp5, hn5⟩ := hrel
    have HN5 := hid hn5
    clear hn5
    by_cases hlt : k < ps.length
    · obtain ⟨b6, o6, rfl, hb6, k0, k1⟩ := hp5.at_ hlt
      have hw := HOK.out ps[k] (List.getElem_mem hlt)
      have hT5 := ptBits_take hlt
      obtain ⟨L, hL⟩ : ∃ L, l ++ ptBits (ps.take k) = L := ⟨_, rfl⟩
      have hLl : L.length ≤ 900000 := by
        rw [← hL, List.length_append]
        have := ptBits_le (ps := ps.take k) (fun q hq => (HOK.out q (List.mem_of_mem_take hq)).2)
        rw [List.length_take] at this; omega
      rw [hL] at hb5 hp5 hb6 k0 k1 ⊢
      generalize hpk : ps[k] = pk at *
      obtain ⟨pv, pw⟩ := pk
      simp only at hw k0 k1 hT5
      obtain ⟨hw1, hw2⟩ := hw
      have HT5 := hid hT5
      have HL := hid hL
      have hs5 := hb5.sl (by (try unfold Ov); repeat (first | with_reducible exact ex_over | with_reducible exact over_self _ | with_reducible refine ex_undrew ?_ | with_reducible refine ex_into ?_ _ | with_reducible refine ex_alloc ?_ _ | with_reducible refine ex_drew ?_ | ((with_reducible refine ex_setCell ?_ ?_ _); rotate_left; (first | omega | (focus (simp; done)) | (focus (simp; omega)))) | ((with_reducible refine ex_chg ?_ _ ?_); rotate_left; (first | assumption | (exact Hid.out (by assumption)))) | exact ex_over))
      obtain ⟨L', hL'⟩ : ∃ L', L ++ num pv pw = L' := ⟨_, rfl⟩
      have HB := hid (fun W hW => bput_any L hLl pv pw hw1 hw2 a5 c5 W hW)
      rw [hL'] at HB
      have HL' := hid hL'
      clear hL'
      have HB5 := hid hb5
      clear hT5 hL hpk hb5
      go_wp2_with (go_at_call 45; (with_reducible refine (HB.out _ (by repeat (first | with_reducible exact hs5 | with_reducible refine Sl.over ?_ _ | with_reducible refine Sl.alloc ?_ _ | with_reducible refine Sl.drew ?_ | exact hs5))).mono ?_); rintro _ _ ⟨a7, c7, rfl, ⟨e7, rfl⟩, ho7⟩; have HO := hid ho7; clear ho7)
      go_roundw
      case rel =>
        have e8 : L' = l ++ ptBits (ps.take (k + 1)) := by rw [← HL'.out, HT5.out, ← HL.out, List.append_assoc]
        have ho := HO.out
        refine ⟨k + 1, by omega, by go_num, ?_⟩
        rw [← e8]
        refine ⟨a7, c7, (by (try unfold Ov); repeat (first | with_reducible exact ex_over | with_reducible exact over_self _ | with_reducible refine ex_undrew ?_ | with_reducible refine ex_into ?_ _ | with_reducible refine ex_alloc ?_ _ | with_reducible refine ex_drew ?_ | ((with_reducible refine ex_setCell ?_ ?_ _); rotate_left; (first | omega | (focus (simp; done)) | (focus (simp; omega)))) | ((with_reducible refine ex_chg ?_ _ ?_); rotate_left; (first | assumption | (exact Hid.out (by assumption)))) | exact ex_over)), .inr ?_, Sl.chg (F := [w.heap.size]) hp5 (by repeat (first | with_reducible exact Chg.refl _ _ | (focus (refine ChS.chg ?_; (repeat (first | with_reducible exact ChS.refl _ _ | with_reducible refine ChS.drewl ?_ | with_reducible refine ChS.drewr ?_ | with_reducible refine ChS.over ?_ _ | with_reducible refine chS_chgs ?_ _ | ((with_reducible refine chS_set ?_ _ ?_ _); rotate_left; (first | assumption | (focus (simp; done)) | (focus (simp; assumption)))) | with_reducible refine ChS.alloc ?_ _ | ((with_reducible refine ChS.lit ?_ ?_ _ _); rotate_left; (first | assumption | (focus (simp; done)) | (focus (simp; assumption)))) | with_reducible refine ChS.alloc ?_ _)); done)) | with_reducible refine Chg.alloc ?_ _ | with_reducible refine Chg.drew ?_ | with_reducible refine Chg.on ?_ _ | ((with_reducible refine Chg.setCell ?_ ?_ _); rotate_left; (first | (focus (left; assumption)) | (focus (left; simp; done)) | (focus (right; simp; done)) | (focus (right; simp; omega)) | (focus (left; simp; omega)))) | ((with_reducible refine Chg.in_ ?_ _ ?_); rotate_left; (first | assumption | (focus (intro i hi; left; simp at hi; subst hi; assumption)) | exact fun i hi => Or.inl hi | (focus (intro i hi; left; simp [hi]; done)) | (focus (intro i hi; left; simp at hi ⊢; simp [hi]; done)) | (focus (intro i hi; simp at hi ⊢; simp [hi]; done)) | (focus (intro i hi; simp at hi ⊢; omega)))))) (fun ad h hm => by have := HN5.out ad h; simp at hm; omega), HN5.out⟩
        exact Own.mono (Own.over_swap ho (by simp) (Nat.le_refl _)) (by simp; omega)
      case measure => simp [intOf]; omega
    · obtain rfl : k = ps.length := by omega
      rw [List.take_length] at *
      obtain ⟨L, hL⟩ : ∃ L, l ++ ptBits ps = L := ⟨_, rfl⟩
      rw [hL] at hb5 ⊢
      have HL := hid hL
      clear hL
      go_wp2
      obtain ⟨F, hF⟩ : ∃ F, F = [w.heap.size + 1 + 1, w.heap.size + 1 + 1 + 1] := ⟨_, rfl⟩
      have n1 : w.heap.size + 1 + 1 ∈ F := by rw [hF]; simp
      have n2 : w.heap.size + 1 + 1 + 1 ∈ F := by rw [hF]; simp
      have n3 : w.heap.size ∉ F := by rw [hF]; simp; omega
      have n4 : w.heap.size + 1 ∉ F := by rw [hF]; simp
      clear hF
      refine M2.wp_region_mixZ (fun w' => ∃ m : Mut, w' = chg F _ m) [2, 3] 5 (by kernel_rfl) (by kernel_rfl) (by decide) (chg_of (Chg.refl _ _)) ?_
      simp only [List.take_succ_cons, List.take_zero, List.drop_succ_cons, List.drop_zero]
      with_reducible refine M2.mixL_quiet 2 (by kernel_rfl) ?_
      simp only [List.take_succ_cons, List.take_zero, List.drop_succ_cons, List.drop_zero]
      repeat (go_big_quiet_step (fail))
      with_reducible refine wpQuiet_nil ?_
      with_reducible refine M2.mixL_eff (by decide) ?_
      go_wp2_with (fail)
      refine M2.MixQ.mk (chg_of (by repeat (first | with_reducible exact Chg.refl _ _ | (focus (refine ChS.chg ?_; (repeat (first | with_reducible exact ChS.refl _ _ | with_reducible refine ChS.drewl ?_ | with_reducible refine ChS.drewr ?_ | with_reducible refine ChS.over ?_ _ | with_reducible refine chS_chgs ?_ _ | ((with_reducible refine chS_set ?_ _ ?_ _); rotate_left; (first | assumption | (focus (simp; done)) | (focus (simp; assumption)))) | with_reducible refine ChS.alloc ?_ _ | ((with_reducible refine ChS.lit ?_ ?_ _ _); rotate_left; (first | assumption | (focus (simp; done)) | (focus (simp; assumption)))) | with_reducible refine ChS.alloc ?_ _)); done)) | with_reducible refine Chg.alloc ?_ _ | with_reducible refine Chg.drew ?_ | with_reducible refine Chg.on ?_ _ | ((with_reducible refine Chg.setCell ?_ ?_ _); rotate_left; (first | (focus (left; assumption)) | (focus (left; simp; done)) | (focus (right; simp; done)) | (focus (right; simp; omega)) | (focus (left; simp; omega)))) | ((with_reducible refine Chg.in_ ?_ _ ?_); rotate_left; (first | assumption | (focus (intro i hi; left; simp at hi; subst hi; assumption)) | exact fun i hi => Or.inl hi | (focus (intro i hi; left; simp [hi]; done)) | (focus (intro i hi; left; simp at hi ⊢; simp [hi]; done)) | (focus (intro i hi; simp at hi ⊢; simp [hi]; done)) | (focus (intro i hi; simp at hi ⊢; omega))))))) ?_
      with_reducible refine M2.mixL_eff (by decide) ?_
      go_wp2_with (fail)
      refine M2.MixQ.mk (chg_of (by repeat (first | with_reducible exact Chg.refl _ _ | (focus (refine ChS.chg ?_; (repeat (first | with_reducible exact ChS.refl _ _ | with_reducible refine ChS.drewl ?_ | with_reducible refine ChS.drewr ?_ | with_reducible refine ChS.over ?_ _ | with_reducible refine chS_chgs ?_ _ | ((with_reducible refine chS_set ?_ _ ?_ _); rotate_left; (first | assumption | (focus (simp; done)) | (focus (simp; assumption)))) | with_reducible refine ChS.alloc ?_ _ | ((with_reducible refine ChS.lit ?_ ?_ _ _); rotate_left; (first | assumption | (focus (simp; done)) | (focus (simp; assumption)))) | with_reducible refine ChS.alloc ?_ _)); done)) | with_reducible refine Chg.alloc ?_ _ | with_reducible refine Chg.drew ?_ | with_reducible refine Chg.on ?_ _ | ((with_reducible refine Chg.setCell ?_ ?_ _); rotate_left; (first | (focus (left; assumption)) | (focus (left; simp; done)) | (focus (right; simp; done)) | (focus (right; simp; omega)) | (focus (left; simp; omega)))) | ((with_reducible refine Chg.in_ ?_ _ ?_); rotate_left; (first | assumption | (focus (intro i hi; left; simp at hi; subst hi; assumption)) | exact fun i hi => Or.inl hi | (focus (intro i hi; left; simp [hi]; done)) | (focus (intro i hi; left; simp at hi ⊢; simp [hi]; done)) | (focus (intro i hi; simp at hi ⊢; simp [hi]; done)) | (focus (intro i hi; simp at hi ⊢; omega))))))) ?_
      with_reducible refine M2.mixL_quiet 1 (by kernel_rfl) ?_
      simp only [List.take_succ_cons, List.take_zero, List.drop_succ_cons, List.drop_zero]
      repeat (go_big_quiet_step (fail))
      with_reducible refine wpQuiet_nil ?_
      with_reducible refine M2.mixL_nil ?_
      with_reducible refine M2.mixL_nil ?_
      go_wp2
      (try simp only [Exit.inBlock, Exit.then])
      refine bodyPost_ret (v := ?rv14) ?rh14 rfl ?rp14
      case rh14 => (simp only [results, show Tryd.f21.results = #[.cell 6 29, .cell 7 24, .tmp 8] from rfl]; go_simp; rfl)
      rw [HL.out]
      refine ⟨a5, c5, rfl, (by (try unfold Ov); repeat (first | with_reducible exact ex_over | with_reducible exact over_self _ | with_reducible refine ex_undrew ?_ | with_reducible refine ex_into ?_ _ | with_reducible refine ex_alloc ?_ _ | with_reducible refine ex_drew ?_ | ((with_reducible refine ex_setCell ?_ ?_ _); rotate_left; (first | omega | (focus (simp; done)) | (focus (simp; omega)))) | ((with_reducible refine ex_chg ?_ _ ?_); rotate_left; (first | assumption | (exact Hid.out (by assumption)))) | exact ex_over)), ?_⟩
      have hne2 : L ≠ l := by
        intro h
        have := congrArg List.length HL.out
        rw [h, List.length_append] at this
        omega
      have ho := hb5.own hne2
      (repeat with_reducible refine Own.drew ?_)
      exact Own.mono (Own.over_swap ho (by first | exact Nat.le_refl _ | rfl | omega | (simp; done) | (simp; omega)) (by first | exact Nat.le_refl _ | rfl | omega | (simp; done) | (simp; omega))) (by first | exact Nat.le_refl _ | rfl | omega | (simp; done) | (simp; omega))

theorem xput_yes (l : List Bool) (hl : l.length ≤ 800000) (a : Option Addr) (cap : Nat) (s : Vl) (hs : s.wf) (hsd : soundV s = true) (v : Nat) (hv : v < 18446744073709551616) (w : World) (hb : SlB w a cap (pack l)) (hT : TabW w) :
    Calls Tryd.prog 21 #[bv a (pack l).length cap l.length, s.v, .int .u64 (v : Nat)] w (XpPost w (l ++ (written s v).1) (written s v).2) :=
  (xput_own l hl a cap s hs hsd v hv w hb hT).mono fun _ _ h => h.post
end Go.Proofs.YthljlajdkdgieaaDoor
