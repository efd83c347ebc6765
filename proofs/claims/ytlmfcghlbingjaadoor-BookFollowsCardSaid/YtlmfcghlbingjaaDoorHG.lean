/- Texts merged: FolP, FolQ. -/
import Derived.Test.YtlmfcghlbingjaaDoorTkW
import Derived.Test.YtlmfcghlbingjaaDoorLSum
import Derived.Test.YtlmfcghlbingjaaDoorSmp
namespace Go.Proofs.YtlmfcghlbingjaaDoor
set_option linter.unusedVariables false
set_option linter.unusedSimpArgs false
open Go.RowKit

/-- Times rise from chunk to chunk. -/
def RiseS (s : Sr) : Prop := ∀ k c d, s.chunks[k]? = some c → s.chunks[k + 1]? = some d → ∀ h : 0 < d.length, (knowC En.zero c).last < d[0].t
theorem RiseS.zero : RiseS Sr.zero := by
  intro k c d h1 h2
  simp [Sr.chunks, Sr.zero] at h2
theorem last_ahead (s : Sr) {c : List Sm} (h : s.cl.getLast? = some c) : s.ahead = (knowC En.zero c).last := by unfold Sr.ahead; rw [h]
theorem getLast_at {l : List (List Sm)} {k : Nat} {c : List Sm} (h : l[k]? = some c) (hk : k + 1 = l.length) : l.getLast? = some c := by
  rw [List.getLast?_eq_getElem?, show l.length - 1 = k by omega]; exact h
theorem rise_put {sz : Nat} {s : Sr} (h : RiseS s) {x : Sm} (hm : s.may x.t) : RiseS (s.put sz x) := by
  have key : ∀ k c d, (s.cl ++ [s.op ++ [x]])[k]? = some c → (s.cl ++ [s.op ++ [x]])[k + 1]? = some d → ∀ h : 0 < d.length, (knowC En.zero c).last < d[0].t := by
    intro k c d h1 h2 hd
    have hk : k + 1 < (s.cl ++ [s.op ++ [x]]).length := (List.getElem?_eq_some_iff.1 h2).1
    rw [List.length_append, List.length_singleton] at hk
    have hkl : k < s.cl.length := by omega
    rw [List.getElem?_append_left hkl] at h1
    rcases Nat.lt_or_ge (k + 1) s.cl.length with h3 | h3
    · rw [List.getElem?_append_left h3] at h2
      refine h k c d ?_ ?_ hd
      · unfold Sr.chunks; rw [List.getElem?_append_left hkl]; exact h1
      · unfold Sr.chunks; rw [List.getElem?_append_left h3]; exact h2
    · have hke : k + 1 = s.cl.length := by omega
      rw [List.getElem?_append_right h3, hke, Nat.sub_self] at h2
      simp at h2
      subst h2
      by_cases hop : s.op = []
      · unfold Sr.may at hm
        rw [if_pos hop] at hm
        have e : (s.op ++ [x])[0]'hd = x := by simp [hop]
        rw [e]
        rcases hm with hm | hm
        · rw [hm] at hkl; simp at hkl
        · rw [last_ahead s (getLast_at h1 hke)] at hm
          exact hm
      · have ho : 0 < s.op.length := List.length_pos_iff.2 hop
        have := h k c s.op (by unfold Sr.chunks; rw [List.getElem?_append_left hkl]; exact h1) (by unfold Sr.chunks; rw [List.getElem?_append_right h3, hke, Nat.sub_self]; rfl) ho
        rw [List.getElem_append_left ho]
        exact this
  unfold Sr.put
  split
  · intro k c d h1 h2 hd
    unfold Sr.chunks at h1 h2
    simp only at h1 h2
    have hk : k + 1 < (s.cl ++ [s.op ++ [x]] ++ [[]]).length := (List.getElem?_eq_some_iff.1 h2).1
    rcases Nat.lt_or_ge (k + 1) (s.cl ++ [s.op ++ [x]]).length with h3 | h3
    · rw [List.getElem?_append_left h3] at h2
      rw [List.getElem?_append_left (by omega)] at h1
      exact key k c d h1 h2 hd
    · rw [List.getElem?_append_right h3] at h2
      rw [List.length_append, List.length_singleton] at hk
      rw [show k + 1 - (s.cl ++ [s.op ++ [x]]).length = 0 by omega] at h2
      simp at h2
      subst h2
      simp at hd
  · intro k c d h1 h2 hd
    exact key k c d h1 h2 hd
theorem getS_mem {S : List (Nat × Sr)} {P : Sr → Prop} (h : ∀ x ∈ S, P x.2) (h0 : P Sr.zero) (id : Nat) : P (getS S id) := by
  unfold getS
  cases hq : S.find? (fun x => x.1 == id) with
  | none => exact h0
  | some y => exact h y (List.mem_of_find?_eq_some hq)
theorem rise_step {sz : Nat} {S : List (Nat × Sr)} (h : ∀ x ∈ S, RiseS x.2) (o : Nat × Sm) : ∀ x ∈ stepS sz S o, RiseS x.2 := by
  unfold stepS
  split
  · rename_i hm
    have hg := getS_mem h RiseS.zero o.1
    unfold putS
    cases hq : S.findIdx? (fun y => y.1 == o.1) with
    | some i =>
      intro x hx
      rcases List.mem_or_eq_of_mem_set hx with h1 | rfl
      · exact h x h1
      · exact rise_put hg hm
    | none =>
      intro x hx
      rcases List.mem_append.1 hx with h1 | h1
      · exact h x h1
      · simp at h1; subst h1
        exact rise_put RiseS.zero (by simp [Sr.may, Sr.zero])
  · exact h
theorem rise_lay {sz : Nat} (l : List (Nat × Sm)) : ∀ x ∈ layS sz l, RiseS x.2 := by
  unfold layS
  have : ∀ (l : List (Nat × Sm)) (S : List (Nat × Sr)), (∀ x ∈ S, RiseS x.2) → ∀ x ∈ l.foldl (stepS sz) S, RiseS x.2 := by
    intro l
    induction l with
    | nil => intro S h; exact h
    | cons o l ih => intro S h; exact ih _ (rise_step h o)
  exact this l [] (by simp)

/-- The front of a series up to a place of one of its chunks. -/
def frontS (s : Sr) (k : Nat) (c : List Sm) (n : Nat) : Sr := ⟨s.cl.take k, c.take n⟩
theorem blen_take (c : List Sm) {n : Nat} : blen (c.take n) n = blen c n := by unfold blen; rw [List.take_take, Nat.min_self]
theorem front_fin {s : Sr} {k b n : Nat} {c : List Sm} {cl : Bool} (hh : s.has ⟨k, b, n⟩ c cl) : (frontS s k c n).fin = ⟨k, b, n⟩ := by
  have hk : k ≤ s.cl.length := by rcases hh.at_eq with ⟨h1, _⟩ | ⟨h1, _⟩ <;> simp only at h1 <;> omega
  have hn := hh.2.1
  have hb := hh.2.2.2
  simp only at hn hb
  unfold Sr.fin frontS
  simp only [List.length_take]
  rw [Nat.min_eq_left hk, Nat.min_eq_left hn, blen_take, hb]
theorem front_ok {s : Sr} (hok : SrOk s) {k b n : Nat} {c : List Sm} {cl : Bool} (hh : s.has ⟨k, b, n⟩ c cl) : SrOk (frontS s k c n) := by
  have hc := hh.ok hok
  refine ⟨fun d hd => hok.cl d (List.mem_of_mem_take hd), ?_, fun x hx => hc.wf x (List.mem_of_mem_take hx), ?_⟩
  · show (c.take n).length ≤ 24
    rw [List.length_take]; have := hc.len; omega
  · have g := hc.good
    rw [← List.take_append_drop n c, goodC_app] at g
    exact g.1
theorem chunk_at {s : Sr} {k b n : Nat} {c : List Sm} {cl : Bool} (hh : s.has ⟨k, b, n⟩ c cl) : s.chunks[k]? = Option.some c ∧ k ≤ s.cl.length := by
  unfold Sr.chunks
  rcases hh.at_eq with ⟨h1, h2, _⟩ | ⟨h1, h2, _⟩
  · simp only at h1 h2
    exact ⟨by rw [List.getElem?_append_left h1]; exact h2, by omega⟩
  · simp only at h1
    refine ⟨by rw [h1, List.getElem?_append_right (Nat.le_refl _), Nat.sub_self, h2]; rfl, by omega⟩
/-- What was cut is taken. -/
theorem take_cut {s : Sr} (hok : SrOk s) (hr : RiseS s) {k b n : Nat} {c : List Sm} {cl : Bool} (hh : s.has ⟨k, b, n⟩ c cl) (hp : (⟨k, b, n⟩ : Pl) ≠ s.fin) (most : Int) (f : Fi) (hf : f.fr = ⟨k, b, n⟩) (hct : f.ct = cutN c ⟨k, b, n⟩ most) {lf : List Bool} (hlf : lf = ((bitsC En.zero c).drop b).take (blen c (cutN c ⟨k, b, n⟩ most) - b)) (hbs : f.bs = pack lf) (hN : f.N = (lf.length : Nat)) :
    TakeB (frontS s k c n) 24 f 0 (c.take (cutN c ⟨k, b, n⟩ most)) := by
  have hck := hh.ok hok
  have hl := has_lt hh hp
  have hn := cutN_le most hl
  have hlen := cutF_len hh hp most 0
  obtain ⟨hca, hkl⟩ := chunk_at hh
  simp only at hl hn hlen
  obtain ⟨N, hNN⟩ : ∃ N, cutN c ⟨k, b, n⟩ most = N := ⟨_, rfl⟩
  rw [hNN] at hct hlf hn hlen ⊢
  have hck2 : ChkOk (c.take N) := by
    refine ⟨by rw [List.length_take]; have := hck.len; omega, fun x hx => hck.wf x (List.mem_of_mem_take hx), ?_⟩
    have g := hck.good
    rw [← List.take_append_drop N c, goodC_app] at g
    exact g.1
  have hbits : bitsC En.zero (c.take n) ++ lf = bitsC En.zero (c.take N) := by
    rw [bits_take c n, bits_take c N, hlf, show blen c n = b from hh.2.2.2, ← List.take_add, Nat.add_sub_cancel' hlen.2.1]
  refine .inr (.inl ⟨by rw [hf, front_fin hh], ?_⟩)
  refine .inr ⟨lf, c.take N, 0, hbs, hN, ?_, .inr (.inr ⟨rfl, rfl, rfl, ?_, ?_, ?_, ?_⟩)⟩
  · show RunC (bitsC En.zero (c.take n) ++ lf) (c.take N) 0
    rw [hbits]
    exact runC_of hck2.wf (by have := hck2.len; omega) hck2.good
  · rw [hct, List.length_take]; omega
  · have : f.pn = n := congrArg Pl.count hf
    omega
  · rw [hct]; have := hck.len; omega
  · intro hs h0
    have hk0 : 0 < k := by
      rcases Nat.eq_zero_or_pos k with h | h
      · subst h; simp [frontS, Sr.some] at hs
      · exact h
    have hkk : k - 1 < s.cl.length := by omega
    have h1 : s.chunks[k - 1]? = Option.some s.cl[k - 1] := by unfold Sr.chunks; rw [List.getElem?_append_left hkk, List.getElem?_eq_getElem hkk]
    have h3 : 0 < c.length := by omega
    have := hr (k - 1) _ c h1 (by rw [show k - 1 + 1 = k by omega]; exact hca) h3
    have h4 : (frontS s k c n).ahead = (knowC En.zero s.cl[k - 1]).last := by
      refine last_ahead _ ?_
      show (s.cl.take k).getLast? = _
      refine getLast_at (k := k - 1) ?_ (by rw [List.length_take]; omega)
      rw [List.getElem?_take_of_lt (by omega), List.getElem?_eq_getElem hkk]
    rw [h4]
    have h5 : (c.take N)[0]'h0 = c[0] := by rw [List.getElem_take]
    rw [h5]; exact this
/-- The front goes on. -/
theorem front_next {s : Sr} (hok : SrOk s) {k b n : Nat} {c : List Sm} {cl : Bool} (hh : s.has ⟨k, b, n⟩ c cl) (hp : (⟨k, b, n⟩ : Pl) ≠ s.fin) (most : Int) {k2 b2 n2 : Nat} (ht : cutPl c cl ⟨k, b, n⟩ most = ⟨k2, b2, n2⟩) :
    ∃ c2 cl2, s.has ⟨k2, b2, n2⟩ c2 cl2 ∧ (frontS s k c n).with_ (c.take (cutN c ⟨k, b, n⟩ most)) (cl && decide (cutN c ⟨k, b, n⟩ most = c.length)) = frontS s k2 c2 n2 := by
  obtain ⟨c2, cl2, h2⟩ := next_has hok hh hp most
  rw [ht] at h2
  have hl := has_lt hh hp
  have hn := cutN_le most hl
  simp only at hl hn
  refine ⟨c2, cl2, h2, ?_⟩
  unfold cutPl at ht
  by_cases hcl : cl = true ∧ cutN c ⟨k, b, n⟩ most = c.length
  · rw [if_pos hcl] at ht
    simp only [Pl.mk.injEq] at ht
    obtain ⟨rfl, rfl, rfl⟩ := ht
    have h3 : s.cl[k]? = Option.some c := by
      rcases hh.at_eq with ⟨_, h4, _⟩ | ⟨_, _, h4⟩
      · exact h4
      · rw [hcl.1] at h4; cases h4
    rw [hcl.2, hcl.1]
    simp only [decide_true, Bool.and_self]
    unfold frontS Sr.with_
    simp only [if_true, List.take_zero, List.take_length]
    rw [List.take_add_one, h3]; rfl
  · rw [if_neg hcl] at ht
    simp only [Pl.mk.injEq] at ht
    obtain ⟨rfl, _, rfl⟩ := ht
    have hcc : c2 = c := by
      have h1 := hh.1
      have h3 := h2.1
      simp only at h1 h3
      rw [h1] at h3
      exact (congrArg Prod.fst (Option.some.inj h3)).symm
    have hf : (cl && decide (cutN c ⟨k, b, n⟩ most = c.length)) = false := by
      cases cl with
      | false => rfl
      | true => simp at hcl ⊢; exact hcl
    rw [hf, hcc]
    unfold frontS Sr.with_
    simp
theorem front_all {s : Sr} {k b n : Nat} {c : List Sm} {cl : Bool} (hh : s.has ⟨k, b, n⟩ c cl) : (frontS s k c n).all = s.all.take (s.rank ⟨k, b, n⟩) ∧ (frontS s k c n).all.length = s.rank ⟨k, b, n⟩ := by
  obtain ⟨hca, hkl⟩ := chunk_at hh
  have hn := hh.2.1
  simp only at hn
  have e1 : s.all = (s.cl.take k).flatten ++ c ++ (s.chunks.drop (k + 1)).flatten := by
    rw [← chunks_all]
    conv => lhs; rw [← List.take_append_drop (k + 1) s.chunks, List.flatten_append, take_flat hca]
    have : s.chunks.take k = s.cl.take k := by unfold Sr.chunks; rw [List.take_append_of_le_length hkl]
    rw [this]
  have e2 : (frontS s k c n).all = (s.cl.take k).flatten ++ c.take n := rfl
  refine ⟨?_, ?_⟩
  · rw [e2, e1]
    unfold Sr.rank
    simp only
    rw [List.append_assoc, List.take_length_add_append, List.take_append_of_le_length hn]
  · rw [e2, List.length_append, List.length_take]
    unfold Sr.rank
    simp only
    omega
/-- A place of a series is the end of the front up to it. -/
theorem front_has {s : Sr} {k b n : Nat} {c : List Sm} {cl : Bool} (hh : s.has ⟨k, b, n⟩ c cl) : (frontS s k c n).has ⟨k, b, n⟩ (c.take n) false := by
  obtain ⟨_, hkl⟩ := chunk_at hh
  have hn := hh.2.1
  have hb := hh.2.2.2
  simp only at hn hb
  have e : (s.cl.take k).length = k := by rw [List.length_take]; omega
  refine ⟨?_, (by simp only [List.length_take]; omega), (fun h => (by cases h)), (by simp only; rw [blen_take]; exact hb)⟩
  unfold Sr.at_ frontS
  simp only [e, Nat.lt_irrefl, dif_neg, not_false_eq_true, if_true]
theorem sum_take (c : List Sm) (n : Nat) : sumP (c.take n) n = sumP c n := by unfold sumP; rw [List.take_take, Nat.min_self]
theorem front_zero {s : Sr} {c : List Sm} : frontS s 0 c 0 = Sr.zero := rfl
theorem front_end {s : Sr} {k b n : Nat} {c : List Sm} {cl : Bool} (hh : s.has ⟨k, b, n⟩ c cl) (hp : (⟨k, b, n⟩ : Pl) = s.fin) : frontS s k c n = s := by
  have hf : s.fin.chunk = s.cl.length := rfl
  have hk : k = s.cl.length := by rw [← hf, ← hp]
  have hn : n = s.op.length := by have := congrArg Pl.count hp; exact this
  have hc : c = s.op := by
    rcases hh.at_eq with ⟨h1, _⟩ | ⟨_, h2, _⟩
    · simp only at h1; omega
    · exact h2.symm
  subst hc
  unfold frontS
  rw [hk, hn, List.take_length, List.take_length]
theorem updS_get {S : List (Nat × Sr)} {id : Nat} {s : Sr} : getS (updS S id s) id = s := by
  unfold updS
  cases hq : S.findIdx? (fun y => y.1 == id) with
  | some i =>
    obtain ⟨hi, h1, h2⟩ := List.findIdx?_eq_some_iff_getElem.1 hq
    unfold getS
    have : (S.set i (id, s)).find? (fun x => x.1 == id) = some (id, s) := by
      rw [List.find?_eq_some_iff_getElem]
      refine ⟨by simp, i, by simpa using hi, by simp, fun j hj => ?_⟩
      rw [List.getElem_set, if_neg (by omega)]
      have := h2 j hj
      simpa using this
    rw [this]; rfl
  | none =>
    rw [List.findIdx?_eq_none_iff] at hq
    unfold getS
    rw [List.find?_append, List.find?_eq_none.2 (fun x hx => by have := hq x hx; simpa using this)]
    simp
theorem updS_mem {S : List (Nat × Sr)} {id : Nat} {s : Sr} : ∀ x ∈ updS S id s, x.1 = id ∨ x ∈ S := by
  unfold updS
  cases S.findIdx? (fun y => y.1 == id) with
  | some i =>
    intro x hx
    rcases List.mem_or_eq_of_mem_set hx with h | rfl
    · exact .inr h
    · exact .inl rfl
  | none =>
    intro x hx
    rcases List.mem_append.1 hx with h | h
    · exact .inr h
    · simp at h; subst h; exact .inl rfl
theorem updS_nodup {S : List (Nat × Sr)} (h : (S.map (·.1)).Nodup) {id : Nat} {s : Sr} : ((updS S id s).map (·.1)).Nodup := by
  unfold updS
  cases hq : S.findIdx? (fun y => y.1 == id) with
  | some i =>
    obtain ⟨hi, h1, _⟩ := List.findIdx?_eq_some_iff_getElem.1 hq
    rw [List.map_set]
    have : (id, s).1 = (S.map (·.1))[i]'(by simpa using hi) := by simpa using (beq_iff_eq.1 h1).symm
    rw [this, List.set_getElem_self]; exact h
  | none =>
    rw [List.findIdx?_eq_none_iff] at hq
    rw [List.map_append]
    refine List.nodup_append.2 ⟨h, by simp, ?_⟩
    intro a ha b hb
    simp at hb; subst hb
    obtain ⟨y, hy, rfl⟩ := List.mem_map.1 ha
    have := hq y hy
    simpa using this
theorem getS_no {S : List (Nat × Sr)} {id : Nat} (h : ∀ x ∈ S, x.1 ≠ id) : getS S id = Sr.zero := by
  unfold getS
  rw [List.find?_eq_none.2 (fun x hx => by simpa using h x hx)]
  rfl
/-- Take at any series. -/
theorem take_any {base : Nat} {w : World} {b n sz mb : Nat} {L : List Se} (h : BkAt base w b n sz mb L) (hbw : base ≤ w.heap.size) (hT : TabW w) (hn : L.length < n) (hn2 : n ≤ 64) (hsz : 1 ≤ sz ∧ sz ≤ 24) (f : Fi) (hf : FiOk w f) {s : Sr} (hs : getS (bkOf L) f.id = s) (hcl : s.cl.length ≤ 900) {er : Nat} {cs : List Sm} (hc : TakeB s sz f er cs) :
    Calls Tryd.prog 17 #[.pointer (some ⟨b, 0, none⟩), f.v] w (TakePost w base b n sz mb L (updS (bkOf L) f.id (s.with_ cs f.cl)) er (f.cl = true ∨ cs.length < sz)) := by
  have hnd := bk_nodup h
  rcases get_or L f.id with ⟨i, hi, h1, h2⟩ | ⟨h1, h2⟩
  · rw [h2] at hs
    subst hs
    have hib : i < (bkOf L).length := by simpa using hi
    have e : updS (bkOf L) f.id (L[i].s.with_ cs f.cl) = (bkOf L).set i (f.id, L[i].s.with_ cs f.cl) := by
      have k := findIdx_id hnd hib
      have e1 : (bkOf L)[i].1 = f.id := by simp [h1]
      rw [e1] at k
      unfold updS; rw [k]
    rw [e]
    exact take_old h hbw hT hn hn2 hsz f hf hi h1 hcl hc
  · rw [h2] at hs
    subst hs
    have e : updS (bkOf L) f.id (Sr.zero.with_ cs f.cl) = bkOf L ++ [(f.id, Sr.zero.with_ cs f.cl)] := by
      unfold updS
      rw [findIdx_no (fun x hx => by obtain ⟨y, hy, rfl⟩ := List.mem_map.1 hx; exact h1 y hy)]
    rw [e]
    exact take_new h hbw hT hn hn2 hsz f hf h1 hc
end Go.Proofs.YtlmfcghlbingjaaDoor
namespace Go.Proofs.YtlmfcghlbingjaaDoor
set_option linter.unusedVariables false
set_option linter.unusedSimpArgs false
open Go.RowKit

abbrev SlU (w : World) (a : Option Addr) (cap : Nat) (xs : List Nat) : Prop := Sl 1 (fun x : Nat => [Value.int .u16 (x : Nat)]) w a cap xs
theorem SlU.at_ {w : World} {a : Option Addr} {cap : Nat} {xs : List Nat} (h : SlU w a cap xs) {k : Nat} (hk : k < xs.length) :
    ∃ b off, a = some ⟨b, off, none⟩ ∧ b < w.heap.size ∧ w.cell? ⟨b, off + k, none⟩ = some (.int .u16 (xs[k] : Nat)) := by
  obtain ⟨b, off, rfl, hb, hcell⟩ := h.rec_ k xs[k] (List.getElem?_eq_getElem hk)
  have := hcell 0 _ rfl
  rw [Nat.mul_one] at this
  exact ⟨b, off, rfl, hb, this⟩
/-- Of what was taken, the chunk that is not closed is not full. -/
theorem fol_ok {sz : Nat} (hsz : sz ≤ 24) {s : Sr} (hop : s.op.length < sz) (hok : SrOk s) {p : Pl} {c : List Sm} {cl : Bool} (hh : s.has p c cl) {N : Nat} (hN : N ≤ c.length) : (cl && decide (N = c.length)) = true ∨ (c.take N).length < 24 := by
  rcases hh.at_eq with ⟨_, _, rfl⟩ | ⟨_, rfl, rfl⟩
  · by_cases h : N = c.length
    · left; simp [h]
    · right
      have := (hh.ok hok).len
      rw [List.length_take]; omega
  · right
    rw [List.length_take]; omega
theorem nodup_le : ∀ (l m : List Nat), l.Nodup → (∀ i ∈ l, i ∈ m) → l.length ≤ m.length
  | [], m, _, _ => Nat.zero_le _
  | a :: l, m, hn, h => by
    have ha : a ∈ m := h a (by simp)
    have hn' := List.nodup_cons.1 hn
    have ih := nodup_le l (m.erase a) hn'.2 (fun i hi => (List.mem_erase_of_ne (by rintro rfl; exact hn'.1 hi)).2 (h i (by simp [hi])))
    rw [List.length_erase_of_mem ha] at ih
    have : 0 < m.length := List.length_pos_of_mem ha
    simp; omega
/-- The second book, behind so many series. -/
structure FolB (W1 w : World) (b2 mb2 : Nat) (L' : List Se) (S : List (Nat × Sr)) (k : Nat) (cur : List Nat) : Prop where
  bk : BkAt W1.heap.size w b2 64 24 mb2 L'
  ov : ∃ e, w = over W1 e
  ids : ∀ x ∈ bkOf L', (∃ j, ∃ hj : j < S.length, j < k ∧ x.1 = S[j].1) ∨ x.1 ∈ cur
theorem FolB.cg {W1 w w' : World} {b2 mb2 : Nat} {L' : List Se} {S : List (Nat × Sr)} {k : Nat} {cur : List Nat} (h : FolB W1 w b2 mb2 L' S k cur) (hW : ∃ e, w' = over w e) : FolB W1 w' b2 mb2 L' S k cur := ⟨bk_ov h.bk hW, ov_tr h.ov hW, h.ids⟩
theorem FolB.len {W1 w : World} {b2 mb2 : Nat} {L' : List Se} {S : List (Nat × Sr)} {k : Nat} {cur : List Nat} (h : FolB W1 w b2 mb2 L' S k cur) (hk : k ≤ S.length) : L'.length ≤ k + cur.length := by
  have hnd := bk_nodup h.bk
  have hsub : ∀ i ∈ (bkOf L').map (·.1), i ∈ ((S.take k).map (·.1)) ++ cur := by
    intro i hi
    obtain ⟨x, hx, rfl⟩ := List.mem_map.1 hi
    rcases h.ids x hx with ⟨j, hj, hjk, he⟩ | hc
    · refine List.mem_append_left _ (List.mem_map.2 ⟨S[j], ?_, he.symm⟩)
      rw [List.mem_take_iff_getElem]
      exact ⟨j, by omega, rfl⟩
    · exact List.mem_append_right _ hc
  have := nodup_le _ _ hnd hsub
  simp at this
  omega
theorem laid_x {W : World} {base b mb sz : Nat} {L : List Se} {ops : List (Nat × Sm)} {rs : List Rs} (h : Laid W base b mb sz L (layS sz ops) rs) {k id : Nat} {s : Sr} (hk : k < rs.length) (K : LaidK L (layS sz ops) rs k id s) : id < 4294967296 ∧ RiseS s ∧ s.op.length < sz := by
  obtain ⟨h2, h3, _⟩ := h.at_ k hk
  have h5 := K.nid hk
  rw [h3] at h5
  have h6 : s = (layS sz ops)[k].2 := by
    have := K.get
    rw [h.eq, ← h5, getS_at h.I.ids h2] at this
    exact this.symm
  have hm := List.getElem_mem h2
  refine ⟨?_, by rw [h6]; exact rise_lay ops _ hm, by rw [h6]; exact (h.I.full _ hm).2⟩
  have hm2 : (layS sz ops)[k] ∈ bkOf L := by rw [h.eq]; exact hm
  obtain ⟨y, hy, he⟩ := List.mem_map.1 hm2
  rw [← h5, ← he]
  exact h.bk.id32 y hy
theorem Sl.takeN {α : Type} {sz : Nat} {cells : α → List Value} {w : World} {a : Option Addr} {cap : Nat} {xs : List α} (h : Sl sz cells w a cap xs) (n : Nat) : Sl sz cells w a cap (xs.take n) :=
  ⟨by rw [List.length_take]; have := h.le; omega, h.max, h.nul, fun i x hx => h.rec_ i x (by rw [List.getElem?_take] at hx; split at hx; exact hx; cases hx)⟩
theorem laid_all0 {W : World} {base b mb sz : Nat} {L : List Se} {ops : List (Nat × Sm)} {rs : List Rs} (h : Laid W base b mb sz L (layS sz ops) rs) {k id : Nat} {s : Sr} (hk : k < rs.length) (K : LaidK L (layS sz ops) rs k id s) : 0 < s.all.length := by
  obtain ⟨h2, h3, h4⟩ := h.at_ k hk
  have h5 := K.l hk
  rw [h4] at h5
  rw [← h5]
  exact List.length_pos_iff.2 (h.I.all _ (List.getElem_mem h2)).2
/-- One cut and what it brings. -/
structure FolX (s : Sr) (pc pb pn : Nat) (c : List Sm) (fk : Nat) (fcl : Bool) (fbi : List Bool) (tc tb tn : Nat) (c2 : List Sm) (cl2 : Bool) (cs : List Sm) : Prop where
  has : s.has ⟨tc, tb, tn⟩ c2 cl2
  with_ : (frontS s pc c pn).with_ cs fcl = frontS s tc c2 tn
  take : ∀ f : Fi, f.fr = ⟨pc, pb, pn⟩ → f.ct = fk → f.bs = pack fbi → f.N = (fbi.length : Nat) → TakeB (frontS s pc c pn) 24 f 0 cs
  okk : fcl = true ∨ cs.length < 24
  rank : s.rank ⟨pc, pb, pn⟩ < s.rank ⟨tc, tb, tn⟩
  fk : fk ≤ 24
  len : fbi.length ≤ 3504
theorem fol_x {base : Nat} {w : World} {b n sz mb : Nat} {L : List Se} (h : BkAt base w b n sz mb L) (hsz : sz ≤ 24) {id : Nat} {s : Sr} (hs : getS (bkOf L) id = s) (hr : RiseS s) (hop : s.op.length < sz) {pc pb pn : Nat} {c : List Sm} {cl : Bool} (hh : s.has ⟨pc, pb, pn⟩ c cl) (hcl : s.cl.length ≤ 900) (hp : (⟨pc, pb, pn⟩ : Pl) ≠ s.fin) (most : Int) (hmo : -9223372036854775808 ≤ most ∧ most ≤ 9223372036854775807) :
    ∃ fk fcl fsm fbi tc tb tn c2 cl2 cs, FolX s pc pb pn c fk fcl fbi tc tb tn c2 cl2 cs ∧ ∀ W, (∃ e, W = over w e) → Calls Tryd.prog 13 #[.pointer (some ⟨b, 0, none⟩), .int .u32 (id : Nat), .agg #[.int .u32 (pc : Nat), .int .u32 (pb : Nat), .int .u32 (pn : Nat)], .int .i64 most] W (CutX W id pc pb pn fk fcl fsm fbi fbi.length tc tb tn) := by
  have hok : SrOk s := by rw [← hs]; exact getS_ok h id
  have hnx := cut_nx hok hh hp most id
  obtain ⟨⟨tc, tb, tn⟩, ht⟩ : ∃ t, cutPl c cl ⟨pc, pb, pn⟩ most = t := ⟨_, rfl⟩
  obtain ⟨c2, cl2, h2, h3⟩ := front_next hok hh hp most ht
  have hle := cutN_le most (has_lt hh hp)
  refine ⟨cutN c ⟨pc, pb, pn⟩ most, cl && decide (cutN c ⟨pc, pb, pn⟩ most = c.length), sumP c pn, ((bitsC En.zero c).drop pb).take (blen c (cutN c ⟨pc, pb, pn⟩ most) - pb), tc, tb, tn, c2, cl2, c.take (cutN c ⟨pc, pb, pn⟩ most), ⟨h2, h3, fun f h4 h5 h6 h7 => ?_, fol_ok hsz hop hok hh hle.2, ?_, hnx.count, hnx.len⟩, fun W hW => ?_⟩
  · exact take_cut hok hr hh hp most f h4 h5 rfl h6 h7
  · have := hnx.rank
    rw [ht] at this
    exact this
  · subst hs
    have k := cut_on (bk_ov h hW) id hh hcl hp most hmo
    rw [ht] at k
    exact k
theorem FolB.stores {W1 w w' w2 : World} {b2 mb2 : Nat} {L' : List Se} {S : List (Nat × Sr)} {k p : Nat} {cur : List Nat} (h : FolB W1 w b2 mb2 L' S k cur) (hn : p ∉ bkB b2 mb2 L') (hp : W1.heap.size ≤ p) (hc : Chg [p] w w') (hW : ∃ e, w2 = over w' e) : FolB W1 w2 b2 mb2 L' S k cur :=
  FolB.cg ⟨BkAt.cg h.bk hc (fun i hi hm => by rw [List.mem_singleton] at hm; subst hm; exact hn hi), Chg.ov h.ov hc (fun i hi => by rw [List.mem_singleton] at hi; omega), h.ids⟩ hW
theorem chg_place (w : World) (p : Nat) (x y z : Value) : Chg [p] w (((w.setCell ⟨p, 0, none⟩ x).setCell ⟨p, 1, none⟩ y).setCell ⟨p, 2, none⟩ z) :=
  Chg.setCell (Chg.setCell (Chg.setCell (Chg.refl _ _) (.inl (by simp)) _) (.inl (by simp)) _) (.inl (by simp)) _
theorem blk_place {w : World} {p : Nat} {a b c : Value} {t : TypeId} (h : Blk w p [a, b, c] t) (x y z : Value) : Blk (((w.setCell ⟨p, 0, none⟩ x).setCell ⟨p, 1, none⟩ y).setCell ⟨p, 2, none⟩ z) p [x, y, z] t := ((h.set 0 x).set 1 y).set 2 z
/-- What is taken. -/
def FolT (W1 w : World) (id b2 mb2 : Nat) (L' : List Se) (S : List (Nat × Sr)) (k : Nat) (s2 : Sr) (en : Ending) (w' : World) : Prop :=
  en = .returned (.int .u16 0) ∧ ∃ L'', FolB W1 w' b2 mb2 L'' S k [id] ∧ getS (bkOf L'') id = s2 ∧ (∀ p cs t, Blk w p cs t → p ∉ bkB b2 mb2 L' → Blk w' p cs t ∧ p ∉ bkB b2 mb2 L'')
theorem fol_take {W1 w0 w : World} {b2 mb2 : Nat} {L' : List Se} {S : List (Nat × Sr)} {k id : Nat} (h0 : FolB W1 w0 b2 mb2 L' S k [id]) (hW : ∃ e, w = over w0 e) (hT : TabW w) (hk : k ≤ S.length) (hk2 : k ≤ 60) {s : Sr} {pc pb pn : Nat} {c : List Sm} {fk : Nat} {fcl : Bool} {fsm : Nat} {fbi : List Bool} {tc tb tn : Nat} {c2 : List Sm} {cl2 : Bool} {cs : List Sm} (hx : FolX s pc pb pn c fk fcl fbi tc tb tn c2 cl2 cs) (hg : getS (bkOf L') id = frontS s pc c pn) (hid_ : id < 4294967296) (hcl : s.cl.length ≤ 60) (hp1 : pc ≤ 60) (hp2 : pb ≤ 3504) (hp3 : pn ≤ 24) {a9 : Option Addr} {c9 : Nat} (hs : SlB w a9 c9 (pack fbi)) :
    Calls Tryd.prog 17 #[.pointer (some ⟨b2, 0, none⟩), .agg #[.int .u8 0, .int .u32 0, .int .u32 (id : Nat), .int .u32 (pc : Nat), .int .u32 (pb : Nat), .int .u32 (pn : Nat), .int .u32 (fk : Nat), .bool fcl, .int .u64 (fsm : Nat), .slice a9 (pack fbi).length c9, .int .i64 (fbi.length : Nat)]] w (FolT W1 w id b2 mb2 L' S k (frontS s tc c2 tn)) := by
  have h := h0.cg hW
  have hlen := h.len hk
  simp only [List.length_singleton] at hlen
  have hsize : W1.heap.size ≤ w.heap.size := by obtain ⟨e, he⟩ := h.ov; rw [he]; simp
  have hpl : (pack fbi).length ≤ 3504 := by have e := pack_length fbi; have := hx.len; unfold nb at e; omega
  have K := take_any h.bk hsize hT (by omega) (by omega) (by omega) (⟨0, 0, id, pc, pb, pn, fk, fcl, fsm, a9, c9, pack fbi, fbi.length⟩ : Fi) ⟨hid_, by simp only; omega, by simp only; omega, by simp only; omega, (by have := hx.fk; simp only; omega), hs, pack_lt, by simp only; omega, (by have := hx.len; simp only; omega)⟩ hg (by simp only [frontS, List.length_take]; omega) (hx.take _ rfl rfl rfl rfl)
  refine K.mono ?_
  intro en w' hp
  unfold TakePost at hp
  rw [if_pos rfl] at hp
  obtain ⟨h1, h2, h3⟩ := hp
  obtain ⟨_, L'', h4, h5, h6, h7, h8⟩ := h3 hx.okk
  simp only at h6
  rw [hx.with_] at h6
  refine ⟨h1, L'', ⟨h5, ?_, ?_⟩, ?_, ?_⟩
  · exact Chg.ov h.ov h4 (fun i hi => (h.bk.blt _ (bkF_B hi)).1)
  · intro x hxm
    rw [h6] at hxm
    rcases updS_mem x hxm with h9 | h9
    · right; simp [h9]
    · exact h.ids x h9
  · rw [h6]; exact updS_get
  · intro p cs t hb hn
    refine ⟨Blk.chg hb h4 (fun hm => hn (bkF_B hm)), fun hm => ?_⟩
    have hlt := hb.lt
    simp only [bkB, List.mem_cons, List.mem_append] at hm
    rcases hm with rfl | rfl | hm | hm
    · exact hn (by simp [bkB])
    · exact hn (by simp [bkB])
    · rcases h7 p (List.mem_cons_of_mem _ hm) with h9 | h9
      · exact hn (bkF_B h9)
      · omega
    · rcases h8 p hm with h9 | h9
      · exact hn (by simp [bkB, h9])
      · omega
end Go.Proofs.YtlmfcghlbingjaaDoor
