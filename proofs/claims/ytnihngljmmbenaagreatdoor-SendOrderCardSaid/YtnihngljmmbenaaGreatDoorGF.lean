import Derived.Test.YtnihngljmmbenaaGreatDoorGD
import Derived.Test.YtnihngljmmbenaaGreatDoorGC
import Derived.Test.YtnihngljmmbenaaGreatDoorGE
import Derived.Test.YtnihngljmmbenaaGreatDoorGA
namespace Go.Proofs.YtnihngljmmbenaaGreatDoor
set_option linter.unusedVariables false
set_option linter.unusedSimpArgs false
section

def wz (x : Int) : Int := (x + 9223372036854775808) % 18446744073709551616 - 9223372036854775808
theorem wz_ok (x : Int) : i64ok (wz x) := by unfold wz i64ok; omega
theorem wz_id {x : Int} (h : i64ok x) : wz x = x := by unfold i64ok at h; unfold wz; omega
theorem wz_add (x y : Int) : wz (wz x + y) = wz (x + y) := by unfold wz; omega
theorem wz_add' (x y : Int) : wz (x + wz y) = wz (x + y) := by unfold wz; omega
theorem wz_sub (x y : Int) : wz (wz x - y) = wz (x - y) := by unfold wz; omega
def uz (x : Int) : Nat := (x % 18446744073709551616).toNat
theorem uz_lt (x : Int) : uz x < 18446744073709551616 := by unfold uz; omega
theorem wz_uz {x : Int} (h : i64ok x) : wz (uz x : Nat) = x := by unfold i64ok at h; unfold wz uz; omega
theorem uz_wz {n : Nat} (h : n < 18446744073709551616) : uz (wz n) = n := by unfold wz uz; omega

structure En where
  n : Int
  last : Int
  delta : Int
  val : Vl
  deriving DecidableEq, Inhabited
def En.zero : En := ⟨0, 0, 0, Vl.zero⟩
def En.wf (e : En) : Prop := i64ok e.n ∧ i64ok e.last ∧ i64ok e.delta ∧ e.val.wf
def soundE (e : En) : Bool := if e.n < 0 then false else if e.n = 0 then decide (e = En.zero) else e.val.has && soundV e.val
theorem soundE_zero {e : En} (h : soundE e = true) (h0 : e.n = 0) : e = En.zero := by
  unfold soundE at h; rw [if_neg (by omega), if_pos h0] at h; simpa using h
theorem soundE_pos {e : En} (h : soundE e = true) (h0 : e.n ≠ 0) : 0 < e.n ∧ e.val.has = true ∧ soundV e.val = true := by
  unfold soundE at h
  split at h
  · cases h
  · rename_i h1
    try rw [if_neg h0] at h
    simp only [Bool.and_eq_true] at h
    exact ⟨by omega, h.1, h.2⟩
theorem soundE_val {e : En} (h : soundE e = true) : soundV e.val = true := by
  by_cases h0 : e.n = 0
  · rw [soundE_zero h h0]; rfl
  · exact (soundE_pos h h0).2.2

def timeBits (e : En) (t : Int) : List Bool := if e.n = 0 then num (uz t) 64 else zbits (foldZ (wz (wz (t - e.last) - e.delta)))
def timeDelta (e : En) (t : Int) : Int := if e.n = 0 then 0 else wz (t - e.last)
def laid (e : En) (t : Int) (v : Nat) : List Bool × En := (timeBits e t ++ (written e.val v).1, ⟨wz (e.n + 1), t, timeDelta e t, (written e.val v).2⟩)
def comes (e : En) (t : Int) : Prop := e.n = 0 ∨ e.last < t
instance (e : En) (t : Int) : Decidable (comes e t) := inferInstanceAs (Decidable (_ ∨ _))

theorem timeBits_len (e : En) (t : Int) : 1 ≤ (timeBits e t).length ∧ (timeBits e t).length ≤ 69 := by
  unfold timeBits; split
  · rw [num_length]; omega
  · exact zbits_len _
theorem laid_sound {e : En} {t : Int} {v : Nat} (hs : soundE e = true) (hw : e.wf) (ht : i64ok t) (hv : v < 18446744073709551616) (hn : e.n < 9223372036854775807) : soundE (laid e t v).2 = true ∧ (laid e t v).2.wf ∧ (laid e t v).2.n = e.n + 1 ∧ (laid e t v).2.last = t := by
  have h := written_sound (soundE_val hs) hw.2.2.2 hv
  have h0 : 0 ≤ e.n := by
    by_cases h0 : e.n = 0
    · omega
    · exact Int.le_of_lt (soundE_pos hs h0).1
  have e1 : wz (e.n + 1) = e.n + 1 := wz_id (by have := hw.1; unfold i64ok at *; omega)
  refine ⟨?_, ⟨?_, ht, ?_, h.2.2.2⟩, e1, rfl⟩
  · unfold soundE laid
    simp only [e1]
    rw [if_neg (by omega), if_neg (by omega), h.1, h.2.1]; rfl
  · exact wz_ok _
  · simp only [laid, timeDelta]
    split
    · unfold i64ok; omega
    · exact wz_ok _
theorem laid_len {e : En} {t : Int} {v : Nat} (hs : soundE e = true) (hw : e.wf) (hv : v < 18446744073709551616) : 1 ≤ (laid e t v).1.length ∧ (laid e t v).1.length ≤ 146 := by
  have := written_len (soundE_val hs) hw.2.2.2 hv
  have := timeBits_len e t
  simp only [laid, List.length_append]; omega

def getT (l : List Bool) (at_ : Int) (e : En) : Int × Int × Int × Bool :=
  if e.n = 0 then (wz (getN l at_ 64).1, 0, at_ + 64, decide ((getN l at_ 64).2 = 0))
  else (wz (e.last + wz ((getZ l at_).1 + e.delta)), wz ((getZ l at_).1 + e.delta), (getZ l at_).2.1, decide ((getZ l at_).2.2 = 0) && decide (e.last < wz (e.last + wz ((getZ l at_).1 + e.delta))))
def getC (l : List Bool) (at_ : Int) (e : En) : (Int × Nat) × Int × En × Nat :=
  if (getT l at_ e).2.2.2 = false then ((0, 0), 0, En.zero, 61)
  else if (getX l (getT l at_ e).2.2.1 e.val).2.2.2 ≠ 0 then ((0, 0), 0, En.zero, 61)
  else (((getT l at_ e).1, (getX l (getT l at_ e).2.2.1 e.val).1), (getX l (getT l at_ e).2.2.1 e.val).2.1, ⟨wz (e.n + 1), (getT l at_ e).1, (getT l at_ e).2.1, (getX l (getT l at_ e).2.2.1 e.val).2.2.1⟩, 0)

theorem getT_laid (a r : List Bool) {e : En} {t : Int} (hw : e.wf) (ht : i64ok t) (hc : comes e t) : getT (a ++ (timeBits e t ++ r)) a.length e = (t, timeDelta e t, ((a.length + (timeBits e t).length : Nat) : Int), true) := by
  unfold getT timeBits timeDelta
  by_cases h0 : e.n = 0
  · simp only [if_pos h0]
    rw [getN_num a r (uz_lt t)]
    simp only [wz_uz ht, num_length]
    simp
  · simp only [if_neg h0]
    have h1 : foldZ (wz (wz (t - e.last) - e.delta)) < 18446744073709551616 := foldZ_lt (wz_ok _)
    rw [getZ_written a r h1, unfold_fold]
    have e1 : wz (wz (wz (t - e.last) - e.delta) + e.delta) = wz (t - e.last) := by
      rw [wz_add, show wz (t - e.last) - e.delta + e.delta = wz (t - e.last) by omega, wz_id (wz_ok _)]
    have e2 : wz (e.last + wz (t - e.last)) = t := by
      rw [wz_add', show e.last + (t - e.last) = t by omega, wz_id ht]
    simp only [e1, e2]
    have : e.last < t := by rcases hc with h | h; exact absurd h h0; exact h
    simp [this]

theorem getC_laid (a r : List Bool) {e : En} {t : Int} {v : Nat} (hs : soundE e = true) (hw : e.wf) (ht : i64ok t) (hv : v < 18446744073709551616) (hc : comes e t) :
    getC (a ++ ((laid e t v).1 ++ r)) a.length e = ((t, v), ((a.length + (laid e t v).1.length : Nat) : Int), (laid e t v).2, 0) := by
  unfold getC
  have h1 := getT_laid a ((written e.val v).1 ++ r) hw ht hc
  have h2 := getX_written (a ++ timeBits e t) r (soundE_val hs) hw.2.2.2 hv
  simp only [laid, List.append_assoc] at *
  rw [h1]
  simp only [Bool.true_eq_false, if_false]
  rw [List.length_append] at h2
  rw [h2]
  simp only [ne_eq, not_true, if_false, List.length_append]
  simp only [Prod.mk.injEq, and_true, true_and]
  omega

theorem getT_ok {l : List Bool} {at_ : Int} {e : En} (h : (getT l at_ e).2.2.2 = true) (hw : e.wf) : 0 ≤ at_ ∧ at_ < (getT l at_ e).2.2.1 ∧ (getT l at_ e).2.2.1 ≤ l.length ∧ i64ok (getT l at_ e).1 ∧ comes e (getT l at_ e).1 ∧ timeDelta e (getT l at_ e).1 = (getT l at_ e).2.1 ∧ timeBits e (getT l at_ e).1 = (l.drop at_.toNat).take ((getT l at_ e).2.2.1.toNat - at_.toNat) := by
  unfold getT at *
  by_cases h0 : e.n = 0
  · simp only [if_pos h0, decide_eq_true_eq] at h ⊢
    obtain ⟨i, rfl, hi, hb⟩ := getN_in h
    have hlt : (getN l i 64).1 < 18446744073709551616 := getN_lt l i 64
    refine ⟨by omega, by omega, by omega, wz_ok _, .inl h0, by unfold timeDelta; rw [if_pos h0], ?_⟩
    unfold timeBits
    rw [if_pos h0, uz_wz hlt, Int.toNat_natCast, hb.symm]
    congr 1; omega
  · simp only [if_neg h0, Bool.and_eq_true, decide_eq_true_eq] at h ⊢
    obtain ⟨hz, hlt⟩ := h
    obtain ⟨⟨d, nx, er⟩, hg⟩ : ∃ p, getZ l at_ = p := ⟨_, rfl⟩
    rw [hg] at hz hlt ⊢
    simp only at hz hlt ⊢
    subst hz
    obtain ⟨a1, a2, a3, a4, a5⟩ := getZ_ok hg
    have hle : i64ok e.last := hw.2.1
    have e1 : wz (wz (e.last + wz (d + e.delta)) - e.last) = wz (d + e.delta) := by
      rw [wz_sub, show e.last + wz (d + e.delta) - e.last = wz (d + e.delta) by omega, wz_id (wz_ok _)]
    have e2 : wz (wz (d + e.delta) - e.delta) = d := by
      rw [wz_sub, show d + e.delta - e.delta = d by omega, wz_id a4]
    refine ⟨a1, a2, a3, wz_ok _, .inr hlt, by unfold timeDelta; rw [if_neg h0, e1], ?_⟩
    unfold timeBits
    rw [if_neg h0, e1, e2, a5]

theorem getC_ok {l : List Bool} {at_ n t : Int} {v : Nat} {e d : En} (h : getC l at_ e = ((t, v), n, d, 0)) (hw : e.wf) : 0 ≤ at_ ∧ at_ < n ∧ n ≤ l.length ∧ i64ok t ∧ comes e t ∧ (laid e t v).2 = d ∧ (laid e t v).1 = (l.drop at_.toNat).take (n.toNat - at_.toNat) := by
  unfold getC at h
  split at h
  · simp at h
  rename_i h1
  have h1 : (getT l at_ e).2.2.2 = true := by simpa using h1
  obtain ⟨a1, a2, a3, a4, a5, a6, a7⟩ := getT_ok h1 hw
  split at h
  · simp at h
  rename_i h2
  obtain ⟨⟨x, m, s, er⟩, hx⟩ : ∃ p, getX l (getT l at_ e).2.2.1 e.val = p := ⟨_, rfl⟩
  rw [hx] at h h2
  simp only at h2
  have h2 : er = 0 := by simpa using h2
  subst h2
  obtain ⟨b1, b2, b3, b4, b5⟩ := getX_ok hx
  simp only [Prod.mk.injEq, and_true] at h
  obtain ⟨⟨rfl, rfl⟩, rfl, rfl⟩ := h
  refine ⟨a1, by omega, b3, a4, a5, ?_, ?_⟩
  · simp only [laid, En.mk.injEq, true_and]
    exact ⟨a6, b4⟩
  · simp only [laid, a7, b5]
    generalize (getT l at_ e).2.2.1 = k at *
    rw [show m.toNat - at_.toNat = (k.toNat - at_.toNat) + (m.toNat - k.toNat) by omega, take_two, show at_.toNat + (k.toNat - at_.toNat) = k.toNat by omega]
end
section
open Go.RowKit
attribute [local go_sem] over_drew

abbrev En.v (e : En) : Value := .agg #[.int .i64 e.n, .int .i64 e.last, .int .i64 e.delta, .bool e.val.has, .int .u64 (e.val.prev : Nat), .int .u8 (e.val.lead : Nat), .int .u8 (e.val.width : Nat)]

set_option maxRecDepth 100000 in
set_option maxHeartbeats 2000000 in
theorem csound_any (e : En) (he : e.wf) (w : World) : Calls Tryz.prog 137 #[e.v] w (Ret w (.bool (soundE e))) := by
  obtain ⟨n, last, delta, val⟩ := e
  obtain ⟨⟨h1, h1'⟩, ⟨h2, h2'⟩, ⟨h3, h3'⟩, hv⟩ := he
  simp only at h1 h1' h2 h2' h3 h3' hv
  have HV := hid (fun W => xsound_any val hv W)
  by_cases hn : n < 0
  · have HE := hid (show soundE ⟨n, last, delta, val⟩ = false by unfold soundE; rw [if_pos hn])
    rw [HE.out]
    go_enter Tryz.func137, Tryz.ntmps137
    go_wp2
    go_ret
    exact ⟨ovA, rfl⟩
  · by_cases h0 : n = 0
    · subst h0
      obtain ⟨has, prev, lead, width⟩ := val
      obtain ⟨hv1, hv2, hv3⟩ := hv
      simp only at hv1 hv2 hv3
      cases has
      all_goals
        go_enter Tryz.func137, Tryz.ntmps137
        go_wp2
        all_goals (go_ret; refine ⟨ovA, ret_bool ?_⟩)
        all_goals (rw [Bool.eq_iff_iff]; simp [soundE, En.zero, Vl.zero]; try first | omega | (simp_all; done) | (simp_all; omega))
    · have h0' : (n == 0) = false := by simp; exact h0
      obtain ⟨has, prev, lead, width⟩ := val
      have HE := hid (show soundE ⟨n, last, delta, ⟨has, prev, lead, width⟩⟩ = (has && soundV ⟨has, prev, lead, width⟩) by unfold soundE; rw [if_neg hn, if_neg h0])
      rw [HE.out]
      clear HE
      obtain ⟨hv1, hv2, hv3⟩ := hv
      simp only at hv1 hv2 hv3
      cases has
      all_goals
        generalize hs : soundV _ = sv at *
        clear hs
        cases sv
        all_goals
          go_enter Tryz.func137, Tryz.ntmps137
          go_wp2_with (go_at_call 164; (with_reducible refine (HV.out _).mono ?_); rintro _ _ ⟨⟨e1, rfl⟩, rfl⟩)
          go_ret
          exact ⟨ovA, rfl⟩
def wrongC (snd se : Bool) : Nat := if snd then if se then 0 else 61 else 11
set_option maxRecDepth 100000 in
set_option maxHeartbeats 1000000 in
theorem cwrong_any (bs : List Nat) (hbs : ∀ b ∈ bs, b < 256) (hl : bs.length ≤ 1000000) (N : Int) (hN : -9223372036854775808 ≤ N ∧ N ≤ 9223372036854775807) (a : Option Addr) (cap : Nat) (e : En) (he : e.wf) (w : World) (hb : SlB w a cap bs) :
    Calls Tryz.prog 115 #[bv a bs.length cap N, e.v] w (Ret w (.int .u16 (wrongC (soundB bs N) (soundE e) : Nat))) := by
  have H1 := hid (fun W hW => sound_any bs hbs hl N hN a cap W hW)
  have H2 := hid (fun W => csound_any e he W)
  cases g1 : soundB bs N
  · rw [g1] at H1
    go_enter Tryz.func115, Tryz.ntmps115
    go_wp2_with (first | (go_at_call 87; (with_reducible refine (H1.out _ (by exact slA hb)).mono ?_); rintro _ _ ⟨⟨e1, rfl⟩, rfl⟩) | (go_at_call 137; (with_reducible refine (H2.out _).mono ?_); rintro _ _ ⟨⟨e2, rfl⟩, rfl⟩))
    go_ret
    exact ⟨ovA, rfl⟩
  · rw [g1] at H1
    cases g2 : soundE e
    · rw [g2] at H2
      go_enter Tryz.func115, Tryz.ntmps115
      go_wp2_with (first | (go_at_call 87; (with_reducible refine (H1.out _ (by exact slA hb)).mono ?_); rintro _ _ ⟨⟨e1, rfl⟩, rfl⟩) | (go_at_call 137; (with_reducible refine (H2.out _).mono ?_); rintro _ _ ⟨⟨e2, rfl⟩, rfl⟩))
      go_ret
      exact ⟨ovA, rfl⟩
    · rw [g2] at H2
      go_enter Tryz.func115, Tryz.ntmps115
      go_wp2_with (first | (go_at_call 87; (with_reducible refine (H1.out _ (by exact slA hb)).mono ?_); rintro _ _ ⟨⟨e1, rfl⟩, rfl⟩) | (go_at_call 137; (with_reducible refine (H2.out _).mono ?_); rintro _ _ ⟨⟨e2, rfl⟩, rfl⟩))
      go_ret
      exact ⟨ovA, rfl⟩
end
section
open Go.RowKit
attribute [local go_sem] over_drew

abbrev smV (t : Int) (v : Nat) : Value := .agg #[.int .i64 t, .int .u64 (v : Nat)]
abbrev cpV (a : Option Addr) (n cap : Nat) (N : Int) (e : En) (er : Nat) : Value := .tuple #[bv a n cap N, e.v, .int .u16 (er : Nat)]

theorem wrap64_wz (x : Int) : wrap64 x = wz x := by unfold wrap64 wz; rfl
theorem zero_wf2 : Vl.zero.wf := by simp [Vl.wf, Vl.zero]
def CpOwn (w : World) (L : List Bool) (e : En) (en : Ending) (w' : World) : Prop :=
  ∃ a c, en = .returned (cpV a (pack L).length c L.length e 0) ∧ (∃ x, w' = over w x) ∧ OwnB w.heap.size w' (.slice a (pack L).length c) (pack L)

set_option maxRecDepth 100000 in
set_option maxHeartbeats 4000000 in
theorem cput_new (l : List Bool) (hl : l.length ≤ 700000) (a : Option Addr) (cap : Nat) (t : Int) (ht : i64ok t) (v : Nat) (hv : v < 18446744073709551616) (w : World) (hT : TabW w) (hb : SlB w a cap (pack l)) :
    Calls Tryz.prog 79 #[bv a (pack l).length cap l.length, En.zero.v, smV t v] w (CpOwn w (l ++ (laid En.zero t v).1) (laid En.zero t v).2) := by
  obtain ⟨e, hen⟩ : ∃ e, e = En.zero := ⟨_, rfl⟩
  have he : e.wf := by rw [hen]; simp [En.wf, En.zero, i64ok, Vl.wf, Vl.zero]
  have hse : soundE e = true := by rw [hen]; rfl
  have HW := hid (fun W hW => cwrong_any (pack l) pack_lt (pack_len_le (by omega)) l.length (by omega) a cap e he W hW)
  rw [sound_pack, hse, show wrongC true true = 0 from rfl] at HW
  have HW' : Hid (∀ W, SlB W a cap (pack l) → Calls Tryz.prog 115 #[bv a (pack l).length cap l.length, e.v] W (Ret W (.int .u16 0))) := HW
  clear HW
  subst hen
  have hU : IntKind.u64.wrap t = ((uz t : Nat) : Int) := by rw [IntKind.wrap_u64]; unfold uz; omega
  have hul := uz_lt t
  have e1 : (laid En.zero t v).1 = num (uz t) 64 ++ (written Vl.zero v).1 := rfl
  have e2 : (laid En.zero t v).2 = ⟨1, t, 0, (written Vl.zero v).2⟩ := by
    simp only [laid, timeDelta, En.zero, if_true, show wz (0 + 1) = 1 by unfold wz; omega]
  rw [e1, e2, ← List.append_assoc]
  generalize uz t = U at *
  have H1 := hid (fun W h => bput_any l (by omega) U 64 hul (by omega) a cap W h)
  have H1' : Hid (∀ W, SlB W a cap (pack l) → Calls Tryz.prog 116 #[bv a (pack l).length cap l.length, .int .u64 (U : Nat), .int .i64 64] W (PutPost W (l ++ num U 64))) := H1
  clear H1 e1 e2
  have hwl := written_len (s := Vl.zero) (v := v) rfl zero_wf2 hv
  obtain ⟨L, hL⟩ : ∃ L, l ++ num U 64 = L := ⟨_, rfl⟩
  have hLl : L.length ≤ 800000 := by rw [← hL, List.length_append, num_length]; omega
  rw [hL] at H1' ⊢
  have H2 := hid (fun a c W0 h1 h2 => xput_own L hLl a c Vl.zero zero_wf2 rfl v hv W0 h1 h2)
  generalize (written Vl.zero v).2 = t' at *
  obtain ⟨L2, hL2⟩ : ∃ L2, L ++ (written Vl.zero v).1 = L2 := ⟨_, rfl⟩
  rw [hL2] at H2 ⊢
  clear hL hL2 hwl
  have H2' : Hid (∀ a c W, SlB W a c (pack L) → TabW W → Calls Tryz.prog 118 #[bv a (pack L).length c L.length, .agg #[.bool false, .int .u64 0, .int .u8 0, .int .u8 0], .int .u64 (v : Nat)] W (XpOwn W L2 t')) := H2
  clear H2
  obtain ⟨ht1, ht2⟩ := ht
  have HW2 : Hid (∀ W, SlB W a cap (pack l) → Calls Tryz.prog 115 #[bv a (pack l).length cap l.length, .agg #[.int .i64 0, .int .i64 0, .int .i64 0, .bool false, .int .u64 0, .int .u8 0, .int .u8 0]] W (Ret W (.int .u16 0))) := HW'
  clear HW' he hse
  show Calls Tryz.prog 79 #[bv a (pack l).length cap l.length, .agg #[.int .i64 0, .int .i64 0, .int .i64 0, .bool false, .int .u64 0, .int .u8 0, .int .u8 0], smV t v] w _
  go_enter Tryz.func79, Tryz.ntmps79
  go_wp2_with (first | (go_at_call 115; (with_reducible refine (HW2.out _ (by exact slA hb)).mono ?_); rintro _ _ ⟨⟨e1, rfl⟩, rfl⟩) | (go_at_call 116; (with_reducible refine (H1'.out _ (by exact slA hb)).mono ?_); rintro _ _ ⟨a3, c3, rfl, ⟨e3, rfl⟩, ho3⟩; have HO3 := hid ho3; clear ho3) | (go_at_call 118; (with_reducible refine (H2'.out _ _ _ (Own.slice' bcs_len (Own.over_swap HO3.out (by exact szA) (by exact szA))).2 (by exact tabA hT)).mono ?_); rintro _ _ ⟨a4, c4, rfl, ⟨e4, rfl⟩, ho4⟩; have HO4 := hid ho4; clear ho4))
  obtain ⟨F, hF⟩ : ∃ F, F = [w.heap.size + 1 + 1 + 1, w.heap.size + 1 + 1 + 1 + 1] := ⟨_, rfl⟩
  have n1 : w.heap.size + 1 + 1 + 1 ∈ F := by rw [hF]; simp
  have n2 : w.heap.size + 1 + 1 + 1 + 1 ∈ F := by rw [hF]; simp
  have n3 : w.heap.size ∉ F := by rw [hF]; simp <;> omega
  have n4 : w.heap.size + 1 ∉ F := by rw [hF]; simp <;> omega
  clear hF
  refine M2.wp_region_mixZ (fun w' => ∃ m : Mut, w' = chg F _ m) [2, 3] 5 (by kernel_rfl) (by kernel_rfl) (by decide) (chg_of (Chg.refl _ _)) ?_
  simp only [M2.td]
  with_reducible refine M2.mixL_quiet 2 (by kernel_rfl) ?_
  simp only [M2.td]
  repeat (go_big_quiet_step (fail))
  with_reducible refine wpQuiet_nil ?_
  with_reducible refine M2.mixL_eff (by decide) ?_
  go_wp2_with (fail)
  refine M2.MixQ.mk (chg_of (by exact chA)) ?_
  with_reducible refine M2.mixL_eff (by decide) ?_
  go_wp2_with (fail)
  refine M2.MixQ.mk (chg_of (by exact chA)) ?_
  with_reducible refine M2.mixL_quiet 1 (by kernel_rfl) ?_
  simp only [M2.td]
  repeat (go_big_quiet_step (fail))
  with_reducible refine wpQuiet_nil ?_
  with_reducible refine M2.mixL_nil ?_
  with_reducible refine M2.mixL_nil ?_
  go_wp2_with fail
  (try simp only [Exit.inBlock, Exit.then])
  refine bodyPost_ret (v := ?rv17) ?rh17 rfl ?rp17
  case rh17 => (simp only [results, show Tryz.f79.results = #[.cell 6 46, .cell 7 121, .tmp 8] from rfl]; go_simp; rfl)
  refine ⟨a4, c4, rfl, ovA, ?_⟩
  (repeat with_reducible refine Own.drew ?_)
  exact Own.mono (Own.over_swap HO4.out (by exact szA) (by exact szA)) (by exact szA)

set_option maxRecDepth 100000 in
set_option maxHeartbeats 4000000 in
theorem cput_on (l : List Bool) (hl : l.length ≤ 700000) (a : Option Addr) (cap : Nat) (e : En) (he : e.wf) (hse : soundE e = true) (h0 : e.n ≠ 0) (t : Int) (ht : i64ok t) (hc : e.last < t) (v : Nat) (hv : v < 18446744073709551616) (w : World) (hT : TabW w) (hb : SlB w a cap (pack l)) :
    Calls Tryz.prog 79 #[bv a (pack l).length cap l.length, e.v, smV t v] w (CpOwn w (l ++ (laid e t v).1) (laid e t v).2) := by
  have HW := hid (fun W hW => cwrong_any (pack l) pack_lt (pack_len_le (by omega)) l.length (by omega) a cap e he W hW)
  rw [sound_pack, hse, show wrongC true true = 0 from rfl] at HW
  have HW' : Hid (∀ W, SlB W a cap (pack l) → Calls Tryz.prog 115 #[bv a (pack l).length cap l.length, e.v] W (Ret W (.int .u16 0))) := HW
  clear HW
  have hpos := soundE_pos hse h0
  obtain ⟨n, last, delta, val⟩ := e
  simp only at h0 hc hpos
  obtain ⟨hn0, hvh, hsv⟩ := hpos
  clear hvh
  have hval := he.2.2.2
  simp only at hval
  have e1 : (laid ⟨n, last, delta, val⟩ t v).1 = zbits (foldZ (wz (wz (t - last) - delta))) ++ (written val v).1 := by simp only [laid, timeBits]; rw [if_neg h0]
  have e2 : (laid ⟨n, last, delta, val⟩ t v).2 = ⟨wz (n + 1), t, wz (t - last), (written val v).2⟩ := by simp only [laid, timeDelta]; rw [if_neg h0]
  rw [e1, e2, ← List.append_assoc]
  have hw1 : wrap64 (t - last) = wz (t - last) := wrap64_wz _
  have hw2 : wrap64 (n + 1) = wz (n + 1) := wrap64_wz _
  have hd := wz_ok (t - last)
  generalize wz (t - last) = D at *
  have hw3 : wrap64 (D - delta) = wz (D - delta) := wrap64_wz _
  have hd2 := wz_ok (D - delta)
  have H1 := hid (fun W h => zput_yes l (by omega) a cap (wz (D - delta)) hd2 W h)
  have hzl := zbits_len (foldZ (wz (D - delta)))
  obtain ⟨L, hL⟩ : ∃ L, l ++ zbits (foldZ (wz (D - delta))) = L := ⟨_, rfl⟩
  have hLl : L.length ≤ 800000 := by rw [← hL, List.length_append]; omega
  rw [hL] at H1 ⊢
  generalize wz (D - delta) = D2 at *
  generalize wz (n + 1) = n' at *
  have H2 := hid (fun a c W0 h1 h2 => xput_own L hLl a c val hval hsv v hv W0 h1 h2)
  generalize (written val v).2 = t' at *
  obtain ⟨L2, hL2⟩ : ∃ L2, L ++ (written val v).1 = L2 := ⟨_, rfl⟩
  rw [hL2] at H2 ⊢
  clear hL hL2 hzl e1 e2 hse
  obtain ⟨ht1, ht2⟩ := ht
  obtain ⟨⟨q1, q2⟩, ⟨q3, q4⟩, ⟨q5, q6⟩, _⟩ := he
  obtain ⟨q7, q8⟩ := hd
  obtain ⟨q9, q10⟩ := hd2
  simp only at q1 q2 q3 q4 q5 q6
  have hn1 : (n == 0) = false := by simp; exact h0
  go_enter Tryz.func79, Tryz.ntmps79
  go_wp2_with (first | (go_at_call 115; (with_reducible refine (HW'.out _ (by exact slA hb)).mono ?_); rintro _ _ ⟨⟨e1, rfl⟩, rfl⟩) | (go_at_call 117; (with_reducible refine (H1.out _ (by exact slA hb)).mono ?_); rintro _ _ ⟨a3, c3, rfl, ⟨e3, rfl⟩, ho3⟩; have HO3 := hid ho3; clear ho3) | (go_at_call 118; (with_reducible refine (H2.out _ _ _ (Own.slice' bcs_len (Own.over_swap HO3.out (by exact szA) (by exact szA))).2 (by exact tabA hT)).mono ?_); rintro _ _ ⟨a4, c4, rfl, ⟨e4, rfl⟩, ho4⟩; have HO4 := hid ho4; clear ho4))
  obtain ⟨F, hF⟩ : ∃ F, F = [w.heap.size + 1 + 1 + 1, w.heap.size + 1 + 1 + 1 + 1] := ⟨_, rfl⟩
  have n1 : w.heap.size + 1 + 1 + 1 ∈ F := by rw [hF]; simp
  have n2 : w.heap.size + 1 + 1 + 1 + 1 ∈ F := by rw [hF]; simp
  have n3 : w.heap.size ∉ F := by rw [hF]; simp <;> omega
  have n4 : w.heap.size + 1 ∉ F := by rw [hF]; simp <;> omega
  clear hF
  refine M2.wp_region_mixZ (fun w' => ∃ m : Mut, w' = chg F _ m) [2, 3] 5 (by kernel_rfl) (by kernel_rfl) (by decide) (chg_of (Chg.refl _ _)) ?_
  simp only [M2.td]
  with_reducible refine M2.mixL_quiet 2 (by kernel_rfl) ?_
  simp only [M2.td]
  repeat (go_big_quiet_step (fail))
  with_reducible refine wpQuiet_nil ?_
  with_reducible refine M2.mixL_eff (by decide) ?_
  go_wp2_with (fail)
  refine M2.MixQ.mk (chg_of (by exact chA)) ?_
  with_reducible refine M2.mixL_eff (by decide) ?_
  go_wp2_with (fail)
  refine M2.MixQ.mk (chg_of (by exact chA)) ?_
  with_reducible refine M2.mixL_quiet 1 (by kernel_rfl) ?_
  simp only [M2.td]
  repeat (go_big_quiet_step (fail))
  with_reducible refine wpQuiet_nil ?_
  with_reducible refine M2.mixL_nil ?_
  with_reducible refine M2.mixL_nil ?_
  go_wp2_with fail
  (try simp only [Exit.inBlock, Exit.then])
  refine bodyPost_ret (v := ?rv18) ?rh18 rfl ?rp18
  case rh18 => (simp only [results, show Tryz.f79.results = #[.cell 6 46, .cell 7 121, .tmp 8] from rfl]; go_simp; rfl)
  refine ⟨a4, c4, rfl, ovA, ?_⟩
  (repeat with_reducible refine Own.drew ?_)
  exact Own.mono (Own.over_swap HO4.out (by exact szA) (by exact szA)) (by exact szA)

theorem cput_yes (l : List Bool) (hl : l.length ≤ 700000) (a : Option Addr) (cap : Nat) (e : En) (he : e.wf) (hse : soundE e = true) (t : Int) (ht : i64ok t) (hc : comes e t) (v : Nat) (hv : v < 18446744073709551616) (w : World) (hT : TabW w) (hb : SlB w a cap (pack l)) :
    Calls Tryz.prog 79 #[bv a (pack l).length cap l.length, e.v, smV t v] w (CpOwn w (l ++ (laid e t v).1) (laid e t v).2) := by
  by_cases h0 : e.n = 0
  · have := soundE_zero hse h0
    subst this
    exact cput_new l hl a cap t ht v hv w hT hb
  · exact cput_on l hl a cap e he hse h0 t ht (by rcases hc with h | h; exact absurd h h0; exact h) v hv w hT hb
end
section

structure Sm where
  t : Int
  v : Nat
  deriving Inhabited, DecidableEq
def Sm.wf (s : Sm) : Prop := i64ok s.t ∧ s.v < 18446744073709551616

def bitsC (e : En) : List Sm → List Bool
  | [] => []
  | s :: r => (laid e s.t s.v).1 ++ bitsC (laid e s.t s.v).2 r
def knowC (e : En) : List Sm → En
  | [] => e
  | s :: r => knowC (laid e s.t s.v).2 r
def goodC (e : En) : List Sm → Prop
  | [] => True
  | s :: r => comes e s.t ∧ goodC (laid e s.t s.v).2 r
instance goodC_dec : ∀ (e : En) (xs : List Sm), Decidable (goodC e xs)
  | _, [] => .isTrue trivial
  | e, s :: r => @instDecidableAnd _ _ _ (goodC_dec _ r)

theorem knowC_app (e : En) (xs ys : List Sm) : knowC e (xs ++ ys) = knowC (knowC e xs) ys := by
  induction xs generalizing e with
  | nil => rfl
  | cons x l ih => exact ih _
theorem bitsC_app (e : En) (xs ys : List Sm) : bitsC e (xs ++ ys) = bitsC e xs ++ bitsC (knowC e xs) ys := by
  induction xs generalizing e with
  | nil => rfl
  | cons x l ih => simp only [List.cons_append, bitsC, ih, knowC, List.append_assoc]
theorem goodC_app (e : En) (xs ys : List Sm) : goodC e (xs ++ ys) ↔ goodC e xs ∧ goodC (knowC e xs) ys := by
  induction xs generalizing e with
  | nil => simp [goodC, knowC]
  | cons x l ih => simp only [List.cons_append, goodC, ih, knowC, and_assoc]
theorem knowC_snoc (e : En) (xs : List Sm) (s : Sm) : knowC e (xs ++ [s]) = (laid (knowC e xs) s.t s.v).2 := knowC_app e xs [s]
theorem bitsC_snoc (e : En) (xs : List Sm) (s : Sm) : bitsC e (xs ++ [s]) = bitsC e xs ++ (laid (knowC e xs) s.t s.v).1 := by
  rw [bitsC_app]; simp [bitsC]
theorem goodC_snoc (e : En) (xs : List Sm) (s : Sm) : goodC e (xs ++ [s]) ↔ goodC e xs ∧ comes (knowC e xs) s.t := by
  rw [goodC_app]; simp [goodC]
theorem takeC_get {α : Type} {l : List α} {k : Nat} (h : k < l.length) : l.take (k + 1) = l.take k ++ [l[k]] := by
  rw [List.take_add_one, List.getElem?_eq_getElem h]; rfl

theorem knowC_ok {e : En} (hs : soundE e = true) (hw : e.wf) : ∀ (xs : List Sm), (∀ s ∈ xs, s.wf) → e.n + xs.length < 9223372036854775807 → soundE (knowC e xs) = true ∧ (knowC e xs).wf ∧ (knowC e xs).n = e.n + xs.length
  | [], _, _ => ⟨hs, hw, by simp [knowC]⟩
  | s :: r, h, hn => by
    have h0 := h s (by simp)
    have h1 := laid_sound (v := s.v) hs hw h0.1 h0.2 (by simp at hn; omega)
    have h2 := knowC_ok h1.1 h1.2.1 r (fun x hx => h x (by simp [hx])) (by rw [h1.2.2.1]; simp at hn; omega)
    refine ⟨h2.1, h2.2.1, ?_⟩
    simp only [knowC, h2.2.2, h1.2.2.1, List.length_cons]; omega
theorem zeroE_ok : soundE En.zero = true ∧ En.zero.wf := ⟨rfl, by simp [En.wf, En.zero, i64ok, Vl.wf, Vl.zero]⟩
theorem knowZ {xs : List Sm} (h : ∀ s ∈ xs, s.wf) (hl : xs.length ≤ 1000000) : soundE (knowC En.zero xs) = true ∧ (knowC En.zero xs).wf ∧ (knowC En.zero xs).n = xs.length := by
  have := knowC_ok zeroE_ok.1 zeroE_ok.2 xs h (by simp [En.zero]; omega)
  simpa [En.zero] using this
theorem bitsC_len {e : En} (hs : soundE e = true) (hw : e.wf) : ∀ (xs : List Sm), (∀ s ∈ xs, s.wf) → e.n + xs.length < 9223372036854775807 → xs.length ≤ (bitsC e xs).length ∧ (bitsC e xs).length ≤ 146 * xs.length
  | [], _, _ => by simp [bitsC]
  | s :: r, h, hn => by
    have h0 := h s (by simp)
    have h1 := laid_sound (v := s.v) hs hw h0.1 h0.2 (by simp at hn; omega)
    have h2 := laid_len (t := s.t) hs hw h0.2
    have h3 := bitsC_len h1.1 h1.2.1 r (fun x hx => h x (by simp [hx])) (by rw [h1.2.2.1]; simp at hn; omega)
    simp only [bitsC, List.length_append, List.length_cons]; omega
theorem bitsZ_len {xs : List Sm} (h : ∀ s ∈ xs, s.wf) (hl : xs.length ≤ 1000000) : xs.length ≤ (bitsC En.zero xs).length ∧ (bitsC En.zero xs).length ≤ 146 * xs.length :=
  bitsC_len zeroE_ok.1 zeroE_ok.2 xs h (by simp [En.zero]; omega)

def ofC (xs : List Sm) : List Bool × En × Nat := if goodC En.zero xs then (bitsC En.zero xs, knowC En.zero xs, 0) else ([], En.zero, 60)
structure ReadC (l : List Bool) (xs : List Sm) : Prop where
  wf : ∀ s ∈ xs, s.wf
  len : xs.length ≤ l.length
  good : goodC En.zero xs
  bits : ∃ r, l = bitsC En.zero xs ++ r
theorem ReadC.zero (l : List Bool) : ReadC l [] := ⟨by simp, by simp, trivial, l, rfl⟩
theorem ReadC.next {l : List Bool} {xs : List Sm} (h : ReadC l xs) (hl : l.length ≤ 900000) {t : Int} {v : Nat} {n : Int} {d : En} (hg : getC l (bitsC En.zero xs).length (knowC En.zero xs) = ((t, v), n, d, 0)) (hv : v < 18446744073709551616) : ReadC l (xs ++ [⟨t, v⟩]) ∧ n = ((bitsC En.zero (xs ++ [⟨t, v⟩])).length : Nat) ∧ d = knowC En.zero (xs ++ [⟨t, v⟩]) := by
  have h1 := knowZ h.wf (by have := h.len; omega)
  obtain ⟨a1, a2, a3, a4, a5, a6, a7⟩ := getC_ok hg h1.2.1
  obtain ⟨r, hr⟩ := h.bits
  have hwf : ∀ s ∈ xs ++ [(⟨t, v⟩ : Sm)], s.wf := by
    intro s hs
    rcases List.mem_append.1 hs with h' | h'
    · exact h.wf s h'
    · simp at h'; subst h'; exact ⟨a4, hv⟩
  have e1 : l.drop (bitsC En.zero xs).length = r := by rw [hr]; simp
  rw [Int.toNat_natCast, e1] at a7
  have e2 : (laid (knowC En.zero xs) t v).1.length = n.toNat - (bitsC En.zero xs).length := by
    rw [a7, List.length_take, ← e1, List.length_drop]; omega
  have e3 : (bitsC En.zero (xs ++ [(⟨t, v⟩ : Sm)])).length = n.toNat := by
    rw [bitsC_snoc, List.length_append, e2]; omega
  have e4 : l = bitsC En.zero (xs ++ [(⟨t, v⟩ : Sm)]) ++ r.drop (n.toNat - (bitsC En.zero xs).length) := by
    rw [bitsC_snoc, a7, List.append_assoc, List.take_append_drop]; exact hr
  refine ⟨⟨hwf, ?_, ?_, _, e4⟩, by rw [e3]; omega, by rw [knowC_snoc]; exact a6.symm⟩
  · have h2 := bitsZ_len hwf (by rw [List.length_append]; have := h.len; simp; omega)
    rw [e3] at h2
    omega
  · rw [goodC_snoc]; exact ⟨h.good, a5⟩
end
section
open Go.RowKit
def Sm.cs (s : Sm) : List Value := [.int .i64 s.t, .int .u64 (s.v : Nat)]
theorem Sm.cs_len (s : Sm) : s.cs.length = 2 := rfl
theorem Sm.cs_one (s : Sm) : ∀ u ∈ s.cs, u.oneCell' = true := by intro u hu; simp [Sm.cs] at hu; rcases hu with rfl | rfl <;> rfl
abbrev SlM (w : World) (a : Option Addr) (cap : Nat) (xs : List Sm) : Prop := Sl 2 Sm.cs w a cap xs
theorem SlM.at_ {w : World} {a : Option Addr} {cap : Nat} {xs : List Sm} (h : SlM w a cap xs) {k : Nat} (hk : k < xs.length) :
    ∃ b off, a = some ⟨b, off, none⟩ ∧ b < w.heap.size ∧ w.cell? ⟨b, off + k * 2, none⟩ = some (.int .i64 xs[k].t) ∧ w.cell? ⟨b, off + k * 2 + 1, none⟩ = some (.int .u64 (xs[k].v : Nat)) := by
  obtain ⟨b, off, rfl, hb, hcell⟩ := h.rec_ k xs[k] (List.getElem?_eq_getElem hk)
  have h0 := hcell 0 _ rfl
  have h1 := hcell 1 _ rfl
  rw [Nat.add_zero] at h0
  exact ⟨b, off, rfl, hb, h0, h1⟩
def CoPost (w : World) (p : List Bool × En × Nat) (en : Ending) (w' : World) : Prop :=
  ∃ a c, en = .returned (cpV a (pack p.1).length c p.1.length p.2.1 p.2.2) ∧ (∃ x, w' = over w x) ∧ OwnB w.heap.size w' (.slice a (pack p.1).length c) (pack p.1)
def RcoPost (w : World) (p : List Bool × En × Nat) (en : Ending) (w' : World) : Prop :=
  ∃ a c, en = .returned (.tuple #[bv a (pack p.1).length c p.1.length, p.2.1.v, .int .i64 (p.2.2 : Nat)]) ∧ (∃ x, w' = over w x) ∧ OwnB w.heap.size w' (.slice a (pack p.1).length c) (pack p.1)
end
end Go.Proofs.YtnihngljmmbenaaGreatDoor
