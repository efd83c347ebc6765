/- Texts merged: FolP, FolQ. -/
import Derived.Test.YtojkoijdndinoaaDoorLD
import Derived.Test.YtojkoijdndinoaaDoorKB
import Derived.Test.YtojkoijdndinoaaDoorKA
namespace Go.Proofs.YtojkoijdndinoaaDoor
set_option linter.unusedVariables false
set_option linter.unusedSimpArgs false
open Go.RowKit

def RiseS (s : Sr) : Prop := ∀ k c d, s.chunks[k]? = some c → s.chunks[k + 1]? = some d → ∀ h : 0 < d.length, (knowC En.zero c).last < d[0].t
theorem RiseS.zero : RiseS Sr.zero := by
  intro k c d h1 h2
  simp [Sr.chunks, Sr.zero] at h2
def frontS (s : Sr) (k : Nat) (c : List Sm) (n : Nat) : Sr := ⟨s.cl.take k, c.take n⟩
theorem take_any {base : Nat} {w : World} {b n sz mb : Nat} {L : List Se} (h : BkAt base w b n sz mb L) (hbw : base ≤ w.heap.size) (hT : TabW w) (hn : L.length < n) (hn2 : n ≤ 64) (hsz : 1 ≤ sz ∧ sz ≤ 24) (f : Fi) (hf : FiOk w f) {s : Sr} (hs : getS (bkOf L) f.id = s) (hcl : s.cl.length ≤ 900) {er : Nat} {cs : List Sm} (hc : TakeB s sz f er cs) :
    Calls Tryd.prog 13 #[.pointer (some ⟨b, 0, none⟩), f.v] w (TakePost w base b n sz mb L (updS (bkOf L) f.id (s.with_ cs f.cl)) er (f.cl = true ∨ cs.length < sz)) := by
  have hnd := bk_nodup h
  rcases get_or L f.id with ⟨i, hi, h1, h2⟩ | ⟨h1, h2⟩
  · rw [h2] at hs
    subst hs
    have hib : i < (bkOf L).length := by simpa using hi
    have e : updS (bkOf L) f.id (L[i].s.with_ cs f.cl) = (bkOf L).set i (f.id, L[i].s.with_ cs f.cl) := by
      have k := findIdx_id hnd hib
      have e1 : (bkOf L)[i].1 = f.id := by simp [h1]
      rw [e1] at k
      unfold updS; rw [k]
    rw [e]
    exact take_old h hbw hT hn hn2 hsz f hf hi h1 hcl hc
  · rw [h2] at hs
    subst hs
    have e : updS (bkOf L) f.id (Sr.zero.with_ cs f.cl) = bkOf L ++ [(f.id, Sr.zero.with_ cs f.cl)] := by
      unfold updS
      rw [findIdx_no (fun x hx => by obtain ⟨y, hy, rfl⟩ := List.mem_map.1 hx; exact h1 y hy)]
    rw [e]
    exact take_new h hbw hT hn hn2 hsz f hf h1 hc
end Go.Proofs.YtojkoijdndinoaaDoor
namespace Go.Proofs.YtojkoijdndinoaaDoor
set_option linter.unusedVariables false
set_option linter.unusedSimpArgs false
open Go.RowKit

abbrev SlU (w : World) (a : Option Addr) (cap : Nat) (xs : List Nat) : Prop := Sl 1 (fun x : Nat => [Value.int .u16 (x : Nat)]) w a cap xs
theorem SlU.at_ {w : World} {a : Option Addr} {cap : Nat} {xs : List Nat} (h : SlU w a cap xs) {k : Nat} (hk : k < xs.length) :
    ∃ b off, a = some ⟨b, off, none⟩ ∧ b < w.heap.size ∧ w.cell? ⟨b, off + k, none⟩ = some (.int .u16 (xs[k] : Nat)) := by
  obtain ⟨b, off, rfl, hb, hcell⟩ := h.rec_ k xs[k] (List.getElem?_eq_getElem hk)
  have := hcell 0 _ rfl
  rw [Nat.mul_one] at this
  exact ⟨b, off, rfl, hb, this⟩
theorem nodup_le : ∀ (l m : List Nat), l.Nodup → (∀ i ∈ l, i ∈ m) → l.length ≤ m.length
  | [], m, _, _ => Nat.zero_le _
  | a :: l, m, hn, h => by
    have ha : a ∈ m := h a (by simp)
    have hn' := List.nodup_cons.1 hn
    have ih := nodup_le l (m.erase a) hn'.2 (fun i hi => (List.mem_erase_of_ne (by rintro rfl; exact hn'.1 hi)).2 (h i (by simp [hi])))
    rw [List.length_erase_of_mem ha] at ih
    have : 0 < m.length := List.length_pos_of_mem ha
    simp; omega
structure FolB (W1 w : World) (b2 mb2 : Nat) (L' : List Se) (S : List (Nat × Sr)) (k : Nat) (cur : List Nat) : Prop where
  bk : BkAt W1.heap.size w b2 64 24 mb2 L'
  ov : ∃ e, w = over W1 e
  ids : ∀ x ∈ bkOf L', (∃ j, ∃ hj : j < S.length, j < k ∧ x.1 = S[j].1) ∨ x.1 ∈ cur
theorem FolB.cg {W1 w w' : World} {b2 mb2 : Nat} {L' : List Se} {S : List (Nat × Sr)} {k : Nat} {cur : List Nat} (h : FolB W1 w b2 mb2 L' S k cur) (hW : ∃ e, w' = over w e) : FolB W1 w' b2 mb2 L' S k cur := ⟨bk_ov h.bk hW, ov_tr h.ov hW, h.ids⟩
theorem FolB.len {W1 w : World} {b2 mb2 : Nat} {L' : List Se} {S : List (Nat × Sr)} {k : Nat} {cur : List Nat} (h : FolB W1 w b2 mb2 L' S k cur) (hk : k ≤ S.length) : L'.length ≤ k + cur.length := by
  have hnd := bk_nodup h.bk
  have hsub : ∀ i ∈ (bkOf L').map (·.1), i ∈ ((S.take k).map (·.1)) ++ cur := by
    intro i hi
    obtain ⟨x, hx, rfl⟩ := List.mem_map.1 hi
    rcases h.ids x hx with ⟨j, hj, hjk, he⟩ | hc
    · refine List.mem_append_left _ (List.mem_map.2 ⟨S[j], ?_, he.symm⟩)
      rw [List.mem_take_iff_getElem]
      exact ⟨j, by omega, rfl⟩
    · exact List.mem_append_right _ hc
  have := nodup_le _ _ hnd hsub
  simp at this
  omega
structure FolX (s : Sr) (pc pb pn : Nat) (c : List Sm) (fk : Nat) (fcl : Bool) (fbi : List Bool) (tc tb tn : Nat) (c2 : List Sm) (cl2 : Bool) (cs : List Sm) : Prop where
  has : s.has ⟨tc, tb, tn⟩ c2 cl2
  with_ : (frontS s pc c pn).with_ cs fcl = frontS s tc c2 tn
  take : ∀ f : Fi, f.fr = ⟨pc, pb, pn⟩ → f.ct = fk → f.bs = pack fbi → f.N = (fbi.length : Nat) → TakeB (frontS s pc c pn) 24 f 0 cs
  okk : fcl = true ∨ cs.length < 24
  rank : s.rank ⟨pc, pb, pn⟩ < s.rank ⟨tc, tb, tn⟩
  fk : fk ≤ 24
  len : fbi.length ≤ 3504
def FolT (W1 w : World) (id b2 mb2 : Nat) (L' : List Se) (S : List (Nat × Sr)) (k : Nat) (s2 : Sr) (en : Ending) (w' : World) : Prop :=
  en = .returned (.int .u16 0) ∧ ∃ L'', FolB W1 w' b2 mb2 L'' S k [id] ∧ getS (bkOf L'') id = s2 ∧ (∀ p cs t, Blk w p cs t → p ∉ bkB b2 mb2 L' → Blk w' p cs t ∧ p ∉ bkB b2 mb2 L'')
end Go.Proofs.YtojkoijdndinoaaDoor
