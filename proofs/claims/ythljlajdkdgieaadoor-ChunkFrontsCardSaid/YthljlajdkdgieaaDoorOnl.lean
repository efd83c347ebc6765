/- Walks: ChunkOnly. -/
import Derived.Test.YthljlajdkdgieaaDoorChkY
import Derived.Test.YthljlajdkdgieaaDoorGB
import Derived.Test.YthljlajdkdgieaaDoorChkK
namespace Go.Proofs.YthljlajdkdgieaaDoor
set_option linter.unusedVariables false
set_option linter.unusedSimpArgs false
open Go.RowKit
attribute [local go_sem] over_drew chg_drew

/-- Times rise. -/
theorem good_rise {xs : List Sm} (hw : ∀ s ∈ xs, s.wf) (hl : xs.length ≤ 1000000) (g : goodC En.zero xs) {i j : Nat} (hi : i < xs.length) (hj : j < xs.length) (hij : j + 1 = i) : xs[j].t < xs[i].t := by
  subst hij
  have h1 := g
  rw [← List.take_append_drop (j + 1 + 1) xs, goodC_app, takeC_get hi, goodC_snoc] at h1
  have hlen : (xs.take (j + 1)).length = j + 1 := by rw [List.length_take]; omega
  have h2 := (comes_get (acc := xs.take (j + 1)) (fun s hs => hw s (List.mem_of_mem_take hs)) (by omega) (by omega) xs[j + 1].t).1 h1.1.2
  have h3 : (xs.take (j + 1))[(xs.take (j + 1)).length - 1]'(by omega) = xs[j] := by
    rw [List.getElem_take]; congr 1; omega
  rw [h3] at h2; exact h2
theorem bitsC_two {e : En} (hs : soundE e = true) (hw : e.wf) : ∀ (xs : List Sm), (∀ s ∈ xs, s.wf) → e.n + xs.length < 9223372036854775807 → 2 * xs.length ≤ (bitsC e xs).length
  | [], _, _ => by simp [bitsC]
  | s :: r, h, hn => by
    have h0 := h s (by simp)
    have h1 := laid_sound (v := s.v) hs hw h0.1 h0.2 (by simp at hn; omega)
    have h2 := written_len (soundE_val hs) hw.2.2.2 h0.2
    have h4 := timeBits_len e s.t
    have h3 := bitsC_two h1.1 h1.2.1 r (fun x hx => h x (by simp [hx])) (by rw [h1.2.2.1]; simp at hn; omega)
    simp only [bitsC, laid, List.length_append, List.length_cons] at h3 ⊢; omega
/-- What is read to the end is laid just so. -/
theorem RunC.whole {L : List Bool} {xs : List Sm} (h : RunC L xs 0) : bitsC En.zero xs = L := by
  obtain ⟨r, hr⟩ := h.rd.bits
  rcases h.fin with ⟨_, h1⟩ | ⟨h1, _⟩
  · have : r = [] := by
      have := congrArg List.length hr
      rw [List.length_append] at this
      exact List.eq_nil_of_length_eq_zero (by omega)
    rw [hr, this, List.append_nil]
  · omega
/-- Bits, what is known. -/
def CpB (w : World) (L : List Bool) (e : En) (en : Ending) (w' : World) : Prop :=
  ∃ a c, en = .returned (.tuple #[bv a (pack L).length c L.length, e.v, .int .u16 0]) ∧ (∃ x, w' = over w x) ∧ SlB w' a c (pack L)
theorem CoPost.b {w w' : World} {L : List Bool} {e : En} {en : Ending} (h : CoPost w (L, e, 0) en w') : CpB w L e en w' := by
  obtain ⟨a, c, h1, h2, h3⟩ := h; exact ⟨a, c, h1, h2, (Own.slice' bcs_len h3).2⟩
theorem cof_good {xs : List Sm} (hx : ∀ s ∈ xs, s.wf) (hl : xs.length ≤ 4000) (g : goodC En.zero xs) (a : Option Addr) (c : Nat) (w : World) (hT : TabW w) (hs : SlM w a c xs) :
    Calls Tryd.prog 26 #[.slice a xs.length c] w (CpB w (bitsC En.zero xs) (knowC En.zero xs)) :=
  (cof_any xs hx hl a c w hT hs).mono fun _ _ h => by rw [ofC_good g] at h; exact h.b
/-- Samples as a slice. -/
def AllS (w : World) (xs : List Sm) (ev : Value) (er : Value) (en : Ending) (w' : World) : Prop :=
  ∃ a c, en = .returned (.tuple #[.slice a xs.length c, ev, er]) ∧ (∃ x, w' = over w x) ∧ SlM w' a c xs
theorem AllPost.s {w w' : World} {xs : List Sm} {e : En} {er : Nat} {en : Ending} (h : AllPost w xs e er en w') {ev rv : Value} (he : e.v = ev) (hr : (.int .u16 (er : Nat) : Value) = rv) : AllS w xs ev rv en w' := by
  subst he hr
  obtain ⟨v, h1, h2, h3⟩ := h
  obtain ⟨a, c, rfl, s⟩ := Own.slice Sm.cs_len h3
  exact ⟨a, c, h1, h2, s⟩

set_option maxRecDepth 100000 in
set_option maxHeartbeats 8000000 in
theorem chunkOnly_any (bs : List Nat) (hbs : ∀ b ∈ bs, b < 256) (N : Int) (hN : -9223372036854775808 ≤ N ∧ N ≤ 9223372036854775807) (a : Option Addr) (cap : Nat) (w : World) (hT : TabW w) (hb : SlB w a cap bs) :
    Calls Tryd.prog 14 #[bv a bs.length cap N] w (Ret w (.bool true)) := by
  have HK := hid (fun W hW => known06_any W hW)
  have hmax := len_max hb
  by_cases hlen : (600 : Int) < (bs.length : Int)
  · have hlen1 := hlen
    go_enter Tryd.func14, Tryd.ntmps14
    go_wp2_with (go_at_call 24; (with_reducible refine (HK.out _ (by repeat (first | with_reducible exact hT | with_reducible refine TabW.over ?_ _ | with_reducible refine TabW.alloc ?_ _ | with_reducible refine TabW.drew ?_ | ((with_reducible refine TabW.setCell ?_ ?_ _); rotate_left; (first | (focus (simp; done)) | (focus (simp; omega)))) | ((with_reducible refine TabW.chg ?_ _ ?_); rotate_left; (first | assumption | (focus (simp; done)) | (focus (simp; omega)))) | exact hT))).mono ?_); rintro _ _ ⟨⟨e1, rfl⟩, rfl⟩)
    go_ret
    exact ⟨(by (try unfold Ov); repeat (first | with_reducible exact ex_over | with_reducible exact over_self _ | with_reducible refine ex_undrew ?_ | with_reducible refine ex_into ?_ _ | with_reducible refine ex_alloc ?_ _ | with_reducible refine ex_drew ?_ | ((with_reducible refine ex_setCell ?_ ?_ _); rotate_left; (first | omega | (focus (simp; done)) | (focus (simp; omega)))) | ((with_reducible refine ex_chg ?_ _ ?_); rotate_left; (first | assumption | (exact Hid.out (by assumption)))) | exact ex_over)), rfl⟩
  have HS := hid (fun W h => sound_any bs hbs (by omega) N hN a cap W h)
  by_cases hs : soundB bs N = true
  · rw [hs] at HS
    obtain ⟨L, rfl, rfl⟩ := sound_list hbs hs
    have hll : L.length ≤ 4800 := by rw [pack_length] at hlen; unfold nb at hlen; omega
    obtain ⟨xs, er, hr⟩ := runC_ex L (by omega)
    have hx : xs.length ≤ 700000 := by have := hr.rd.len; omega
    have hE := each_ok (by omega) a cap hr
    have h1 := fun W h1 h2 => call_any _ _ a cap xs er hE hx W h1 h2
    rcases hr.fin with ⟨rfl, _⟩ | ⟨rfl, _⟩
    · rw [if_pos rfl, if_pos rfl] at h1
      have hw := hr.whole
      have hk := knowZ hr.rd.wf (by omega)
      have h2l := bitsC_two zeroE_ok.1 zeroE_ok.2 xs hr.rd.wf (by simp [En.zero]; omega)
      rw [hw] at h2l
      have HR := hid (fun i j hi hj hij => good_rise hr.rd.wf (by omega) hr.rd.good (i := i) (j := j) hi hj hij)
      have HO := hid (fun b d W h1 h2 => cof_good hr.rd.wf (by omega) hr.rd.good b d W h1 h2)
      rw [hw] at HO
      obtain ⟨e, he⟩ : ∃ e, knowC En.zero xs = e := ⟨_, rfl⟩
      rw [he] at h1 HO
      have HA : Hid (∀ W, TabW W → SlB W a cap (pack L) → Calls Tryd.prog 36 #[bv a (pack L).length cap L.length] W (AllS W xs e.v (.int .u16 0))) := hid (fun W q1 q2 => (h1 W q1 q2).mono fun _ _ h => h.s rfl rfl)
      have HSm := hid (fun b1 c1 b2 c2 W h1 h2 => rsame_any (pack L) (pack L) pack_lt pack_lt L.length L.length b1 c1 b2 c2 W h1 h2)
      rw [decide_eq_true rfl, decide_eq_true rfl] at HSm
      clear hr hE h1 hw hk h2l he HS hs
      go_enter Tryd.func14, Tryd.ntmps14
      go_wp2_with (first
        | (go_at_call 24; (with_reducible refine (HK.out _ (by repeat (first | with_reducible exact hT | with_reducible refine TabW.over ?_ _ | with_reducible refine TabW.alloc ?_ _ | with_reducible refine TabW.drew ?_ | ((with_reducible refine TabW.setCell ?_ ?_ _); rotate_left; (first | (focus (simp; done)) | (focus (simp; omega)))) | ((with_reducible refine TabW.chg ?_ _ ?_); rotate_left; (first | assumption | (focus (simp; done)) | (focus (simp; omega)))) | exact hT))).mono ?_); rintro _ _ ⟨⟨e1, rfl⟩, rfl⟩)
        | (go_at_call 36; (with_reducible refine (HA.out _ (by repeat (first | with_reducible exact hT | with_reducible refine TabW.over ?_ _ | with_reducible refine TabW.alloc ?_ _ | with_reducible refine TabW.drew ?_ | ((with_reducible refine TabW.setCell ?_ ?_ _); rotate_left; (first | (focus (simp; done)) | (focus (simp; omega)))) | ((with_reducible refine TabW.chg ?_ _ ?_); rotate_left; (first | assumption | (focus (simp; done)) | (focus (simp; omega)))) | exact hT)) (by repeat (first | with_reducible exact hb | with_reducible refine Sl.over ?_ _ | with_reducible refine Sl.alloc ?_ _ | with_reducible refine Sl.drew ?_ | exact hb))).mono ?_); rintro _ _ ⟨a2, c2, rfl, ⟨e2, rfl⟩, s2⟩))
      refine gen_w ?_
      intro W0 hW0
      have O0 : Hid (∃ e, W0 = over w e) := hid (by rw [hW0]; exact (by (try unfold Ov); repeat (first | with_reducible exact ex_over | with_reducible exact over_self _ | with_reducible refine ex_undrew ?_ | with_reducible refine ex_into ?_ _ | with_reducible refine ex_alloc ?_ _ | with_reducible refine ex_drew ?_ | ((with_reducible refine ex_setCell ?_ ?_ _); rotate_left; (first | omega | (focus (simp; done)) | (focus (simp; omega)))) | ((with_reducible refine ex_chg ?_ _ ?_); rotate_left; (first | assumption | (exact Hid.out (by assumption)))) | exact ex_over)))
      have B1 : Hid (Blk W0 w.heap.size [.slice a (pack L).length cap, .int .i64 (L.length : Nat)] 29) := hid (by rw [hW0]; exact Blk.alloc (Blk.on (Blk.on (Blk.new' (by simp)) _) _) _)
      have B4 : Hid (Blk W0 (w.heap.size + 1 + e1.heap.size + e2.heap.size) e.cs 42) := hid (by rw [hW0]; exact Blk.new' (by simp))
      have S2 : Hid (SlM W0 a2 c2 xs) := hid (by rw [hW0]; exact (by repeat (first | with_reducible exact s2 | with_reducible refine Sl.over ?_ _ | with_reducible refine Sl.alloc ?_ _ | with_reducible refine Sl.drew ?_ | exact s2)))
      have SB : Hid (SlB W0 a cap (pack L)) := hid (by rw [hW0]; exact (by repeat (first | with_reducible exact hb | with_reducible refine Sl.over ?_ _ | with_reducible refine Sl.alloc ?_ _ | with_reducible refine Sl.drew ?_ | exact hb)))
      have HT0 : Hid (TabW W0) := hid (TabW.ov hT O0.out)
      clear hW0
      obtain ⟨p4, hp4⟩ : ∃ p, p = w.heap.size + 1 + e1.heap.size + e2.heap.size := ⟨_, rfl⟩
      rw [← hp4] at B4 ⊢
      clear hp4 s2
      have b10 := B1.out.cell 0 rfl
      have b11 := B1.out.cell 1 rfl
      have l1 := B1.out.lt
      have b40 := B4.out.cell 0 rfl
      have b41 := B4.out.cell 1 rfl
      have b42 := B4.out.cell 2 rfl
      have b43 := B4.out.cell 3 rfl
      have b44 := B4.out.cell 4 rfl
      have b45 := B4.out.cell 5 rfl
      have b46 := B4.out.cell 6 rfl
      have l4 := B4.out.lt
      go_loopw [6] (fun i wr => ∃ (k : Nat), (k ≤ xs.length ∨ k = 1) ∧ 1 ≤ k ∧ i = .int .i64 (k : Nat) ∧ Ov W0 wr) (fun i _ => xs.length - (intOf i).toNat)
      case atStart => exact ⟨1, .inr rfl, Nat.le_refl _, rfl, (by (try unfold Ov); repeat (first | with_reducible exact ex_over | with_reducible exact over_self _ | with_reducible refine ex_undrew ?_ | with_reducible refine ex_into ?_ _ | with_reducible refine ex_alloc ?_ _ | with_reducible refine ex_drew ?_ | ((with_reducible refine ex_setCell ?_ ?_ _); rotate_left; (first | omega | (focus (simp; done)) | (focus (simp; omega)))) | ((with_reducible refine ex_chg ?_ _ ?_); rotate_left; (first | assumption | (exact Hid.out (by assumption)))) | exact ex_over))⟩
      case round =>
        obtain ⟨k, hk, hk1, rfl, ⟨e0, rfl⟩⟩ := hrel
        by_cases hlt : k < xs.length
        · have hlt' : k - 1 < xs.length := by omega
          have hidx : ((k : Int) - 1) = ((k - 1 : Nat) : Int) := by omega
          have hri := HR.out k (k - 1) hlt hlt' (by omega)
          obtain ⟨b6, o6, rfl, hb6, k0, _⟩ := SlM.at_ S2.out hlt
          obtain ⟨b7, o7, hab, hb7, j0, _⟩ := SlM.at_ S2.out hlt'
          obtain ⟨rfl, rfl⟩ : b6 = b7 ∧ o6 = o7 := by simpa using hab
          clear hab
          generalize xs[k] = x at *
          generalize xs[k - 1] = y at *
          go_wp2_with fail
          refine wp_region_over (by kernel_rfl) (by kernel_rfl) ?_
          repeat (go_big_quiet_step ((fail)))
          refine wpQuiet_nil ?_
          intro _ hw'
          obtain ⟨nq, rfl⟩ := hw'
          go_wp2_with fail
          go_roundw
          case rel => exact ⟨k + 1, by omega, by omega, by go_num, (by (try unfold Ov); repeat (first | with_reducible exact ex_over | with_reducible exact over_self _ | with_reducible refine ex_undrew ?_ | with_reducible refine ex_into ?_ _ | with_reducible refine ex_alloc ?_ _ | with_reducible refine ex_drew ?_ | ((with_reducible refine ex_setCell ?_ ?_ _); rotate_left; (first | omega | (focus (simp; done)) | (focus (simp; omega)))) | ((with_reducible refine ex_chg ?_ _ ?_); rotate_left; (first | assumption | (exact Hid.out (by assumption)))) | exact ex_over))⟩
          case measure => (simp [intOf]; try omega)
        · go_wp2_with (first
            | (go_at_call 26; (with_reducible refine (HO.out _ _ _ (by repeat (first | with_reducible exact HT0.out | with_reducible refine TabW.over ?_ _ | with_reducible refine TabW.alloc ?_ _ | with_reducible refine TabW.drew ?_ | ((with_reducible refine TabW.setCell ?_ ?_ _); rotate_left; (first | (focus (simp; done)) | (focus (simp; omega)))) | ((with_reducible refine TabW.chg ?_ _ ?_); rotate_left; (first | assumption | (focus (simp; done)) | (focus (simp; omega)))) | exact HT0.out)) (by repeat (first | with_reducible exact S2.out | with_reducible refine Sl.over ?_ _ | with_reducible refine Sl.alloc ?_ _ | with_reducible refine Sl.drew ?_ | exact S2.out))).mono ?_); rintro _ _ ⟨a5, c5, rfl, ⟨e5, rfl⟩, s5⟩)
            | (go_at_call 23; (with_reducible refine (HSm.out _ _ _ _ _ (by repeat (first | with_reducible exact SB.out | with_reducible refine Sl.over ?_ _ | with_reducible refine Sl.alloc ?_ _ | with_reducible refine Sl.drew ?_ | exact SB.out)) (by repeat (first | with_reducible exact s5 | with_reducible refine Sl.over ?_ _ | with_reducible refine Sl.alloc ?_ _ | with_reducible refine Sl.drew ?_ | exact s5))).mono ?_); rintro _ _ ⟨⟨e9, rfl⟩, rfl⟩))
          go_ret
          exact ⟨(by (try unfold Ov); repeat (first | with_reducible exact O0.out | with_reducible exact O0.out | with_reducible refine ex_undrew ?_ | with_reducible refine ex_into ?_ _ | with_reducible refine ex_alloc ?_ _ | with_reducible refine ex_drew ?_ | ((with_reducible refine ex_setCell ?_ ?_ _); rotate_left; (first | omega | (focus (simp; done)) | (focus (simp; omega)))) | ((with_reducible refine ex_chg ?_ _ ?_); rotate_left; (first | assumption | (exact Hid.out (by assumption)))) | exact ex_over)), rfl⟩
    · rw [if_neg (by decide), if_neg (by decide)] at h1
      have HA : Hid (∀ W, TabW W → SlB W a cap (pack L) → Calls Tryd.prog 36 #[bv a (pack L).length cap L.length] W (AllS W [] (.agg #[.int .i64 0, .int .i64 0, .int .i64 0, .bool false, .int .u64 0, .int .u8 0, .int .u8 0]) (.int .u16 61))) := hid (fun W q1 q2 => (h1 W q1 q2).mono fun _ _ h => h.s rfl rfl)
      clear hr hE h1
      go_enter Tryd.func14, Tryd.ntmps14
      go_wp2_with (first
        | (go_at_call 24; (with_reducible refine (HK.out _ (by repeat (first | with_reducible exact hT | with_reducible refine TabW.over ?_ _ | with_reducible refine TabW.alloc ?_ _ | with_reducible refine TabW.drew ?_ | ((with_reducible refine TabW.setCell ?_ ?_ _); rotate_left; (first | (focus (simp; done)) | (focus (simp; omega)))) | ((with_reducible refine TabW.chg ?_ _ ?_); rotate_left; (first | assumption | (focus (simp; done)) | (focus (simp; omega)))) | exact hT))).mono ?_); rintro _ _ ⟨⟨e1, rfl⟩, rfl⟩)
        | (go_at_call 36; (with_reducible refine (HA.out _ (by repeat (first | with_reducible exact hT | with_reducible refine TabW.over ?_ _ | with_reducible refine TabW.alloc ?_ _ | with_reducible refine TabW.drew ?_ | ((with_reducible refine TabW.setCell ?_ ?_ _); rotate_left; (first | (focus (simp; done)) | (focus (simp; omega)))) | ((with_reducible refine TabW.chg ?_ _ ?_); rotate_left; (first | assumption | (focus (simp; done)) | (focus (simp; omega)))) | exact hT)) (by repeat (first | with_reducible exact hb | with_reducible refine Sl.over ?_ _ | with_reducible refine Sl.alloc ?_ _ | with_reducible refine Sl.drew ?_ | exact hb))).mono ?_); rintro _ _ ⟨a2, c2, rfl, ⟨e2, rfl⟩, s2⟩)
        | (go_at_call 37; (with_reducible refine (HS.out _ (by repeat (first | with_reducible exact hb | with_reducible refine Sl.over ?_ _ | with_reducible refine Sl.alloc ?_ _ | with_reducible refine Sl.drew ?_ | exact hb))).mono ?_); rintro _ _ ⟨⟨e3, rfl⟩, rfl⟩))
      go_ret
      exact ⟨(by (try unfold Ov); repeat (first | with_reducible exact ex_over | with_reducible exact over_self _ | with_reducible refine ex_undrew ?_ | with_reducible refine ex_into ?_ _ | with_reducible refine ex_alloc ?_ _ | with_reducible refine ex_drew ?_ | ((with_reducible refine ex_setCell ?_ ?_ _); rotate_left; (first | omega | (focus (simp; done)) | (focus (simp; omega)))) | ((with_reducible refine ex_chg ?_ _ ?_); rotate_left; (first | assumption | (exact Hid.out (by assumption)))) | exact ex_over)), rfl⟩
  · have hs' : soundB bs N = false := by simpa using hs
    rw [hs'] at HS
    have hE := each_no hbs (by omega) hN a cap hs'
    have h1 := fun W h1 h2 => call_any _ _ a cap [] 11 hE (by simp) W h1 h2
    rw [if_neg (by decide), if_neg (by decide)] at h1
    have HA : Hid (∀ W, TabW W → SlB W a cap bs → Calls Tryd.prog 36 #[bv a bs.length cap N] W (AllS W [] (.agg #[.int .i64 0, .int .i64 0, .int .i64 0, .bool false, .int .u64 0, .int .u8 0, .int .u8 0]) (.int .u16 11))) := hid (fun W q1 q2 => (h1 W q1 q2).mono fun _ _ h => h.s rfl rfl)
    clear hE h1
    go_enter Tryd.func14, Tryd.ntmps14
    go_wp2_with (first
      | (go_at_call 24; (with_reducible refine (HK.out _ (by repeat (first | with_reducible exact hT | with_reducible refine TabW.over ?_ _ | with_reducible refine TabW.alloc ?_ _ | with_reducible refine TabW.drew ?_ | ((with_reducible refine TabW.setCell ?_ ?_ _); rotate_left; (first | (focus (simp; done)) | (focus (simp; omega)))) | ((with_reducible refine TabW.chg ?_ _ ?_); rotate_left; (first | assumption | (focus (simp; done)) | (focus (simp; omega)))) | exact hT))).mono ?_); rintro _ _ ⟨⟨e1, rfl⟩, rfl⟩)
      | (go_at_call 36; (with_reducible refine (HA.out _ (by repeat (first | with_reducible exact hT | with_reducible refine TabW.over ?_ _ | with_reducible refine TabW.alloc ?_ _ | with_reducible refine TabW.drew ?_ | ((with_reducible refine TabW.setCell ?_ ?_ _); rotate_left; (first | (focus (simp; done)) | (focus (simp; omega)))) | ((with_reducible refine TabW.chg ?_ _ ?_); rotate_left; (first | assumption | (focus (simp; done)) | (focus (simp; omega)))) | exact hT)) (by repeat (first | with_reducible exact hb | with_reducible refine Sl.over ?_ _ | with_reducible refine Sl.alloc ?_ _ | with_reducible refine Sl.drew ?_ | exact hb))).mono ?_); rintro _ _ ⟨a2, c2, rfl, ⟨e2, rfl⟩, s2⟩)
      | (go_at_call 37; (with_reducible refine (HS.out _ (by repeat (first | with_reducible exact hb | with_reducible refine Sl.over ?_ _ | with_reducible refine Sl.alloc ?_ _ | with_reducible refine Sl.drew ?_ | exact hb))).mono ?_); rintro _ _ ⟨⟨e3, rfl⟩, rfl⟩))
    go_ret
    exact ⟨(by (try unfold Ov); repeat (first | with_reducible exact ex_over | with_reducible exact over_self _ | with_reducible refine ex_undrew ?_ | with_reducible refine ex_into ?_ _ | with_reducible refine ex_alloc ?_ _ | with_reducible refine ex_drew ?_ | ((with_reducible refine ex_setCell ?_ ?_ _); rotate_left; (first | omega | (focus (simp; done)) | (focus (simp; omega)))) | ((with_reducible refine ex_chg ?_ _ ?_); rotate_left; (first | assumption | (exact Hid.out (by assumption)))) | exact ex_over)), rfl⟩
end Go.Proofs.YthljlajdkdgieaaDoor
