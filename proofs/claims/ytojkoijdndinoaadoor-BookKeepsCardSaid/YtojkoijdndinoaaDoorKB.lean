/- Texts merged: AggW, AggO, StpW, Cmp, FndW, Smp. -/
import Derived.Test.YtojkoijdndinoaaDoorKA
import Derived.Test.YtojkoijdndinoaaDoorGF
import Derived.Test.YtojkoijdndinoaaDoorGA
import Derived.Laws.Externs
import Derived.Test.YtojkoijdndinoaaDoorGB
import Derived.Test.YtojkoijdndinoaaDoorHE
import Derived.Test.YtojkoijdndinoaaDoorBak
namespace Go.Proofs.YtojkoijdndinoaaDoor
set_option linter.unusedVariables false
set_option linter.unusedSimpArgs false
open Go.RowKit
attribute [local go_sem] over_drew chg_drew

def Ag.cs (a : Ag) : List Value := [.int .u64 (a.n : Nat), .int .i64 a.f.t, .int .u64 (a.f.v : Nat), .int .i64 a.l.t, .int .u64 (a.l.v : Nat), .int .u64 (a.mn : Nat), .int .u64 (a.mx : Nat), .int .u64 (a.hi : Nat), .int .u64 (a.lo : Nat)]
abbrev Ag.v (a : Ag) : Value := .agg #[.int .u64 (a.n : Nat), .int .i64 a.f.t, .int .u64 (a.f.v : Nat), .int .i64 a.l.t, .int .u64 (a.l.v : Nat), .int .u64 (a.mn : Nat), .int .u64 (a.mx : Nat), .int .u64 (a.hi : Nat), .int .u64 (a.lo : Nat)]
/-- What may be joined. -/
structure AgOk (a b : Ag) : Prop where
  n : a.n + b.n < 18446744073709551616
  lo : a.lo < 18446744073709551616 ∧ b.lo < 18446744073709551616
  hi : a.hi + b.hi + 1 < 18446744073709551616
  ord : a.n = 0 ∨ b.n = 0 ∨ a.l.t < b.f.t
end Go.Proofs.YtojkoijdndinoaaDoor
namespace Go.Proofs.YtojkoijdndinoaaDoor
set_option linter.unusedVariables false
set_option linter.unusedSimpArgs false
open Go.RowKit
attribute [local go_sem] over_drew chg_drew

theorem sumV_le {l : List Sm} (h : ∀ x ∈ l, x.v < 18446744073709551616) : sumV l ≤ l.length * 18446744073709551615 := by
  induction l with
  | nil => simp [sumV]
  | cons x l ih =>
    have h1 := ih (fun y hy => h y (by simp [hy]))
    have h2 := h x (by simp)
    unfold sumV at *
    simp only [List.map_cons, List.sum_cons, List.length_cons]
    omega
theorem agC_bd {l : List Sm} (h : ∀ x ∈ l, x.v < 18446744073709551616) : (agC l).lo < 18446744073709551616 ∧ (agC l).hi ≤ l.length ∧ (agC l).n = l.length := by
  cases l with
  | nil => simp [agC, Ag.zero]
  | cons x l =>
    have h1 := sumV_le h
    rw [List.length_cons] at h1
    obtain ⟨s, hs⟩ : ∃ s, sumV (x :: l) = s := ⟨_, rfl⟩
    rw [hs] at h1
    refine ⟨?_, ?_, rfl⟩
    · show sumV (x :: l) % 18446744073709551616 < _
      omega
    · show sumV (x :: l) / 18446744073709551616 ≤ l.length + 1
      rw [hs]
      omega
theorem agC_l {l : List Sm} (h : l ≠ []) : (agC l).l = l.getLast h := by
  cases l with
  | nil => exact absurd rfl h
  | cons x l => rfl
/-- One more. -/
theorem ag_step {l : List Sm} (hr : RiseL l) (hw : ∀ x ∈ l, x.v < 18446744073709551616) (hl : l.length ≤ 100000) {k : Nat} (hk : k < l.length) :
    AgOk (agC (l.take k)) ⟨1, l[k], l[k], l[k].v, l[k].v, 0, l[k].v⟩ ∧ agJ (agC (l.take k)) ⟨1, l[k], l[k], l[k].v, l[k].v, 0, l[k].v⟩ = agC (l.take (k + 1)) := by
  have hv := hw _ (List.getElem_mem hk)
  obtain ⟨b1, b2, b3⟩ := agC_bd (l := l.take k) (fun x hx => hw x (List.mem_of_mem_take hx))
  have hlt : (l.take k).length = k := by simp; omega
  rw [hlt] at b2 b3
  refine ⟨⟨by show (agC (l.take k)).n + 1 < _; omega, ⟨b1, hv⟩, by show (agC (l.take k)).hi + 0 + 1 < _; omega, ?_⟩, ?_⟩
  · rcases Nat.eq_zero_or_pos k with h0 | h0
    · left; omega
    · right; right
      have hne : l.take k ≠ [] := fun e => by rw [e] at hlt; simp at hlt; omega
      rw [agC_l hne]
      have hg : (l.take k).getLast hne = l[k - 1]'(by omega) := by
        rw [List.getLast_eq_getElem, List.getElem_take]
        congr 1
        omega
      rw [hg]
      exact (List.pairwise_iff_getElem.1 hr) (k - 1) k (by omega) hk (by omega)
  · rw [← agC_one l[k] hv, agJ_agC, List.take_succ_eq_append_getElem hk]
theorem setAg_blk {w : World} {p : Nat} {B : Ag} {t : TypeId} (h : Blk w p B.cs t) (A : Ag) : Blk (((((((((w.setCell ⟨p, 0, none⟩ (.int .u64 (A.n : Nat))).setCell ⟨p, 1, none⟩ (.int .i64 A.f.t)).setCell ⟨p, 2, none⟩ (.int .u64 (A.f.v : Nat))).setCell ⟨p, 3, none⟩ (.int .i64 A.l.t)).setCell ⟨p, 4, none⟩ (.int .u64 (A.l.v : Nat))).setCell ⟨p, 5, none⟩ (.int .u64 (A.mn : Nat))).setCell ⟨p, 6, none⟩ (.int .u64 (A.mx : Nat))).setCell ⟨p, 7, none⟩ (.int .u64 (A.hi : Nat))).setCell ⟨p, 8, none⟩ (.int .u64 (A.lo : Nat))) p A.cs t :=
  ((((((((h.set 0 _).set 1 _).set 2 _).set 3 _).set 4 _).set 5 _).set 6 _).set 7 _).set 8 _
theorem setAg_ne {w : World} {p q : Nat} {cs : List Value} {t : TypeId} (h : Blk w q cs t) (hq : q ≠ p) (A : Ag) : Blk (((((((((w.setCell ⟨p, 0, none⟩ (.int .u64 (A.n : Nat))).setCell ⟨p, 1, none⟩ (.int .i64 A.f.t)).setCell ⟨p, 2, none⟩ (.int .u64 (A.f.v : Nat))).setCell ⟨p, 3, none⟩ (.int .i64 A.l.t)).setCell ⟨p, 4, none⟩ (.int .u64 (A.l.v : Nat))).setCell ⟨p, 5, none⟩ (.int .u64 (A.mn : Nat))).setCell ⟨p, 6, none⟩ (.int .u64 (A.mx : Nat))).setCell ⟨p, 7, none⟩ (.int .u64 (A.hi : Nat))).setCell ⟨p, 8, none⟩ (.int .u64 (A.lo : Nat))) q cs t :=
  Blk.set_ne (Blk.set_ne (Blk.set_ne (Blk.set_ne (Blk.set_ne (Blk.set_ne (Blk.set_ne (Blk.set_ne (Blk.set_ne h hq _) hq _) hq _) hq _) hq _) hq _) hq _) hq _) hq _
theorem setAg_ov {w0 w : World} {p : Nat} (h : ∃ e, w = over w0 e) (hp : w0.heap.size ≤ p) (A : Ag) : ∃ e, (((((((((w.setCell ⟨p, 0, none⟩ (.int .u64 (A.n : Nat))).setCell ⟨p, 1, none⟩ (.int .i64 A.f.t)).setCell ⟨p, 2, none⟩ (.int .u64 (A.f.v : Nat))).setCell ⟨p, 3, none⟩ (.int .i64 A.l.t)).setCell ⟨p, 4, none⟩ (.int .u64 (A.l.v : Nat))).setCell ⟨p, 5, none⟩ (.int .u64 (A.mn : Nat))).setCell ⟨p, 6, none⟩ (.int .u64 (A.mx : Nat))).setCell ⟨p, 7, none⟩ (.int .u64 (A.hi : Nat))).setCell ⟨p, 8, none⟩ (.int .u64 (A.lo : Nat))) = over w0 e :=
  ex_setCell (ex_setCell (ex_setCell (ex_setCell (ex_setCell (ex_setCell (ex_setCell (ex_setCell (ex_setCell h hp _) hp _) hp _) hp _) hp _) hp _) hp _) hp _) hp _
end Go.Proofs.YtojkoijdndinoaaDoor
namespace Go.Proofs.YtojkoijdndinoaaDoor
set_option linter.unusedVariables false
set_option linter.unusedSimpArgs false
open Go.RowKit
attribute [local go_sem] over_drew chg_drew

theorem dif_wrap {a b : Int} (h : b ≤ a) (ha : -9223372036854775808 ≤ a ∧ a ≤ 9223372036854775807) (hb : -9223372036854775808 ≤ b ∧ b ≤ 9223372036854775807) : IntKind.u64.wrap (wrap64 (a - b)) = ((a - b).toNat : Int) := by
  rw [IntKind.wrap_u64]
  unfold wrap64
  omega
/-- The first place. -/
def idxF (p : Sm → Bool) (xs : List Sm) : Int := match xs.findIdx? p with
  | some i => (i : Nat)
  | none => -1
theorem idxF_yes {p : Sm → Bool} {xs : List Sm} {k : Nat} (hk : k < xs.length) (hb : ∀ j, (h : j < k) → p (xs[j]'(by omega)) = false) (h : p xs[k] = true) : idxF p xs = (k : Nat) := by
  unfold idxF
  rw [List.findIdx?_eq_some_iff_getElem.2 ⟨hk, h, fun j hj => by simp [hb j hj]⟩]
theorem idxF_no {p : Sm → Bool} {xs : List Sm} (hb : ∀ j, (h : j < xs.length) → p xs[j] = false) : idxF p xs = -1 := by
  unfold idxF
  rw [List.findIdx?_eq_none_iff.2 (fun x hx => by obtain ⟨j, hj, rfl⟩ := List.getElem_of_mem hx; simp [hb j hj])]
end Go.Proofs.YtojkoijdndinoaaDoor
namespace Go.Proofs.YtojkoijdndinoaaDoor
set_option linter.unusedVariables false
set_option linter.unusedSimpArgs false
open Go.RowKit

def cmpZ (x y : Int) : Int := if x < y then -1 else if y < x then 1 else 0
end Go.Proofs.YtojkoijdndinoaaDoor
namespace Go.Proofs.YtojkoijdndinoaaDoor
set_option linter.unusedVariables false
set_option linter.unusedSimpArgs false
open Go.RowKit

end Go.Proofs.YtojkoijdndinoaaDoor
namespace Go.Proofs.YtojkoijdndinoaaDoor
set_option linter.unusedVariables false
set_option linter.unusedSimpArgs false
open Go.RowKit
attribute [local go_sem] over_drew chg_drew

theorem SeAt.smp {base : Nat} {w : World} {x : Se} (h : SeAt base w x) {k : Nat} (hk : k < x.ps.length) : ∃ c, x.s.chunks[k]? = Option.some c ∧ ChkOk c ∧ x.ps[k].L = bitsC En.zero c ∧ PrtOk base w x.ps[k] := by
  obtain ⟨c, h1, h2⟩ := h.is_.L hk
  refine ⟨c, h1, ?_, h2, h.pts _ (List.getElem_mem hk)⟩
  have hm := List.mem_of_getElem? h1
  unfold Sr.chunks at hm
  rcases List.mem_append.1 hm with h3 | h3
  · exact (h.ok.cl c h3).2
  · simp at h3; subst h3; exact h.ok.op
theorem chunks_all (s : Sr) : s.chunks.flatten = s.all := by unfold Sr.chunks Sr.all; simp
theorem take_flat {l : List (List Sm)} {k : Nat} {c : List Sm} (h : l[k]? = Option.some c) : (l.take (k + 1)).flatten = (l.take k).flatten ++ c := by
  rw [List.take_add_one, h]; simp
theorem flat_le {l : List (List Sm)} (k : Nat) : (l.take k).flatten.length ≤ l.flatten.length := by
  conv => rhs; rw [← List.take_append_drop k l, List.flatten_append, List.length_append]
  omega
set_option maxRecDepth 100000 in
set_option maxHeartbeats 4000000 in
theorem samples_any {base : Nat} {w : World} {b n sz mb : Nat} {L : List Se} (h : BkAt base w b n sz mb L) (hT : TabW w) (id : Nat) {s : Sr} (hs0 : getS (bkOf L) id = s) (hcl : s.cl.length ≤ 900) (hall : s.all.length ≤ 100000) :
    Calls Tryd.prog 10 #[.pointer (some ⟨b, 0, none⟩), .int .u32 (id : Nat)] w (Gives w fun v w' => OwnM w.heap.size w' v s.all) := by
  have HA := hid (fun W (hW : ∃ e, W = over w e) => bkAt_any (w := W) (by obtain ⟨e, rfl⟩ := hW; exact h.on e) id)
  rw [hs0] at HA
  have HT := hid hT
  clear h hs0 hT
  go_enter Tryd.func10, Tryd.ntmps10
  go_wp2_with (
    (go_at_call 21)
    (with_reducible refine (HA.out _ (by (try unfold Ov); exact ovA)).mono ?_)
    rintro _ w1 ⟨x, rfl, ⟨e1, hw1⟩, hs, hxs⟩
    have O1 : Hid (∃ e, w1 = over w e) := hid (by rw [hw1]; exact (by (try unfold Ov); exact ovA))
    obtain ⟨g, cap, m, ho⟩ := hs.open_
    have HS := hid hs
    have HO := hid ho
    have HX := hid hxs
    have r0 := hs.blk.cell 0 rfl
    rw [ho.hv] at r0
    have l0 := hs.blk.lt
    have hm : s.cl.length = m := by rw [← hxs]; exact ho.hc
    clear hw1 hs ho hxs)
  have hg := HO.out.lt
  have hpl : x.ps.length = m + 1 := HO.out.hl
  go_loopw [5, 7, 8, 9, 10, 18] (fun v _ _ _ _ i wr => ∃ k : Nat, k ≤ m + 1 ∧ i = .int .i64 (k : Nat) ∧ OwnM w1.heap.size wr v (s.chunks.take k).flatten ∧ Ov w1 wr) (fun _ _ _ _ _ i _ => m + 1 - (intOf i).toNat)
  case atStart => exact ⟨0, Nat.zero_le _, rfl, Own.nil _, (by (try unfold Ov); exact ovA)⟩
  case round =>
    obtain ⟨k, hk, rfl, hown, ⟨e0, rfl⟩⟩ := hrel
    obtain ⟨av, cv, rfl, _⟩ := Own.slice Sm.cs_len hown
    have HOW := hid hown
    by_cases hlt : k < m + 1
    · have hpk : k < x.ps.length := by omega
      obtain ⟨c, hc1, hc2, hc3, hc4⟩ := HS.out.smp hpk
      rw [HX.out] at hc1
      have htk := take_flat hc1
      have hfl := flat_le (l := s.chunks) (k + 1)
      rw [chunks_all] at hfl
      have hpo := (HO.out.part hpk).ov hg (W := over w1 e0) ⟨e0, rfl⟩
      obtain ⟨pt, hptx⟩ : ∃ pt, x.ps[k]'hpk = pt := ⟨_, rfl⟩
      rw [hptx] at hpo hc3 hc4
      have q0 := hpo.r0
      have q1 := hpo.r1
      have q2 := hpo.r2
      have q3 := hpo.r3
      have q4 := hpo.r4
      have q5 := hpo.r5
      have q6 := hpo.r6
      have q7 := hpo.r7
      have q8 := hpo.r8
      have q9 := hpo.r9
      have q10 := hpo.r10
      rw [hc3] at q0 q1
      have SB := hid hc4.b
      rw [hc3] at SB
      obtain ⟨ee, hee⟩ : ∃ ee, knowC En.zero c = ee := ⟨_, rfl⟩
      have HAll := hid (fun A C W (h1 : TabW W) (h2 : SlB W A C (pack (bitsC En.zero c))) => all_good hc2.wf (by have := hc2.len; omega) hc2.good A C W h1 h2)
      rw [hee] at HAll
      obtain ⟨n0, n1, n2, ⟨n3, n4, n5, n6⟩⟩ := ee
      obtain ⟨LL, hLL⟩ : ∃ LL, bitsC En.zero c = LL := ⟨_, rfl⟩
      rw [hLL] at HAll SB q0 q1
      have HTK := hid htk
      have hcl24 := hc2.len
      rw [htk, List.length_append] at hfl
      have HT1 := hid (TabW.ov HT.out O1.out)
      obtain ⟨pre, hpre⟩ : ∃ p, (s.chunks.take k).flatten = p := ⟨_, rfl⟩
      rw [hpre] at hown HOW hfl HTK ⊢
      clear hc1 hc2 hc3 hc4 hpo hptx hee hLL htk hown hpre
      go_wp2_with (first
        | (go_at_call 22; (with_reducible refine (HAll.out _ _ _ (by exact tabA HT1.out) (by exact slA SB.out)).mono ?_); rintro _ _ ⟨a6, c6, rfl, ⟨e6, rfl⟩, s6⟩; have S6 := hid s6; clear s6)
        | (at_builtin
           refine wpList_append sample_elem Sm.cs_len Sm.cs_one rfl (.tmp 29) (.tmp 30) rfl (w1 := over w1 e0) (B := w1) (base := w1.heap.size) (ys := pre) (xs := c) HOW.out rfl rfl (by (try unfold Ov); exact ovA) (by (try unfold Ov); exact ovA) (Nat.le_refl _) (by simp) (by exact slA S6.out) (by unfold maxLen; omega) (by omega) ?_
           intro v8 x8 ho8 _ _
           have HO8 := hid ho8
           clear ho8))
      go_roundw
      case rel => exact ⟨k + 1, by omega, by go_num, by rw [HTK.out]; exact HO8.out, (by (try unfold Ov); exact ovA)⟩
      case measure => (simp [intOf]; try omega)
    · obtain rfl : k = m + 1 := by omega
      have hfa : (s.chunks.take (m + 1)).flatten = s.all := by
        rw [List.take_of_length_le (by rw [chunks_len]; omega), chunks_all]
      have HFA := hid hfa
      clear hown hfa
      go_wp2
      go_ret
      refine ⟨(by (try unfold Ov); exact ovB O1.out), _, rfl, ?_⟩
      have hle : w.heap.size ≤ w1.heap.size := by obtain ⟨z, hz⟩ := O1.out; rw [hz]; simp
      rw [← HFA.out]
      exact Own.mono HOW.out hle
end Go.Proofs.YtojkoijdndinoaaDoor
