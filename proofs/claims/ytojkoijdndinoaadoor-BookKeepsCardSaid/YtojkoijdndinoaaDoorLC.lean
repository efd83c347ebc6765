/- Texts merged: LLaid, Chs, KepP, LKep. -/
import Derived.Test.YtojkoijdndinoaaDoorHE
import Derived.Test.YtojkoijdndinoaaDoorLayW
import Derived.Test.YtojkoijdndinoaaDoorKB
import Derived.Test.YtojkoijdndinoaaDoorLB
import Derived.Test.YtojkoijdndinoaaDoorGM
import Derived.Test.YtojkoijdndinoaaDoorHF
import Derived.Deep.Cut
namespace Go.Proofs.YtojkoijdndinoaaDoor
set_option linter.unusedVariables false
set_option linter.unusedSimpArgs false
open Go.RowKit

theorem lsz_ok (size : Int) : 1 ≤ lsz size ∧ lsz size ≤ 24 := by unfold lsz; omega
/-- What is known of a book that was laid. -/
structure Laid (W : World) (base b mb sz : Nat) (L : List Se) (S : List (Nat × Sr)) (rs : List Rs) : Prop where
  bk : BkAt base W b 64 sz mb L
  eq : bkOf L = S
  len : rs.length = S.length
  at_ : ∀ k, (h : k < rs.length) → ∃ h2 : k < S.length, rs[k].id = S[k].1 ∧ rs[k].l = S[k].2.all
  I : LayI sz 60 S
theorem LayI.mono {sz k n : Nat} {S : List (Nat × Sr)} (h : LayI sz k S) (hk : k ≤ n) : LayI sz n S := ⟨by have := h.len; omega, fun x hx => ⟨by have := (h.all x hx).1; omega, (h.all x hx).2⟩, h.full, h.ids⟩
theorem laid_of {W : World} {base b mb sz : Nat} {L : List Se} {ops : List (Nat × Sm)} {rs : List Rs} (hsz : 1 ≤ sz) (hl : ops.length ≤ 60) (h : BkAt base W b 64 sz mb L) (he : bkOf L = layS sz ops) (hm : rs.map (fun r => (r.id, r.l)) = allS (layS sz ops)) : Laid W base b mb sz L (layS sz ops) rs := by
  have hlen : rs.length = (layS sz ops).length := by have := congrArg List.length hm; simpa [allS] using this
  have hI := layI hsz ops ops.length (Nat.le_refl _)
  rw [List.take_length] at hI
  refine ⟨h, he, hlen, fun j hj => ?_, hI.mono hl⟩
  have h2 : j < (layS sz ops).length := by omega
  have h3 := congrArg (fun l => l[j]?) hm
  simp [allS, List.getElem?_eq_getElem hj, List.getElem?_eq_getElem h2] at h3
  exact ⟨h2, h3.1, h3.2⟩
/-- The k-th series. -/
structure LaidK (L : List Se) (S : List (Nat × Sr)) (rs : List Rs) (k id : Nat) (s : Sr) : Prop where
  nid : ∀ h : k < rs.length, rs[k].id = id
  l : ∀ h : k < rs.length, rs[k].l = s.all
  get : getS (bkOf L) id = s
  ok : SrOk s
  all : s.all.length ≤ 60
  cl : s.cl.length ≤ 60
theorem Laid.k {W : World} {base b mb sz : Nat} {L : List Se} {S : List (Nat × Sr)} {rs : List Rs} (h : Laid W base b mb sz L S rs) {k : Nat} (hk : k < rs.length) : ∃ id s, LaidK L S rs k id s := by
  obtain ⟨h2, h3, h4⟩ := h.at_ k hk
  have hg : getS (bkOf L) S[k].1 = S[k].2 := by rw [h.eq]; exact getS_at h.I.ids h2
  have hok : SrOk S[k].2 := by rw [← hg]; exact getS_ok h.bk _
  have ha := (h.I.all _ (List.getElem_mem h2)).1
  exact ⟨S[k].1, S[k].2, fun _ => h3, fun _ => h4, hg, hok, ha, cl_le hok ha⟩
theorem ret_eq {w w' : World} {v : Value} {en : Ending} (h : Ret w v en w') : en = .returned v ∧ ∃ e, w' = over w e := ⟨h.2, h.1⟩
theorem Laid.ov {W W' : World} {base b mb sz : Nat} {L : List Se} {S : List (Nat × Sr)} {rs : List Rs} (h : Laid W base b mb sz L S rs) (ho : ∃ e, W' = over W e) : Laid W' base b mb sz L S rs := by
  obtain ⟨e, rfl⟩ := ho
  exact ⟨h.bk.on e, h.eq, h.len, h.at_, h.I⟩
end Go.Proofs.YtojkoijdndinoaaDoor
namespace Go.Proofs.YtojkoijdndinoaaDoor
set_option linter.unusedVariables false
set_option linter.unusedSimpArgs false
open Go.RowKit
attribute [local go_sem] over_drew chg_drew

/-- A whole chunk, as a frame. -/
def chF (id k : Nat) (c : List Sm) (cl : Bool) : Fr := ⟨id, ⟨k, 0, 0⟩, c.length, cl, 0, bitsC En.zero c⟩
theorem blen_tot (c : List Sm) (n : Nat) : blen c n ≤ (bitsC En.zero c).length := by
  have h := congrArg List.length (bits_take c n)
  rw [List.length_take] at h
  have : (bitsC En.zero (c.take n)).length = blen c n := rfl
  omega
theorem cutTo_all (c : List Sm) : ∀ f n, n ≤ c.length → c.length ≤ n + f → cutTo c 0 ((bitsC En.zero c).length : Nat) f n = c.length
  | 0, n, h1, h2 => by unfold cutTo; omega
  | f + 1, n, h1, h2 => by
    unfold cutTo
    split
    · rename_i h; exact cutTo_all c f (n + 1) h.1 (by omega)
    · rename_i h
      have := blen_tot c (n + 1)
      by_cases hn : n < c.length
      · exact absurd ⟨hn, by omega⟩ h
      · omega
theorem cutF_all (id k : Nat) {c : List Sm} (cl : Bool) (hc : c ≠ []) : cutF id c cl ⟨k, 0, 0⟩ ((bitsC En.zero c).length : Nat) = chF id k c cl := by
  have hl := List.length_pos_iff.2 hc
  have h1 : cutN c ⟨k, 0, 0⟩ ((bitsC En.zero c).length : Nat) = c.length := cutTo_all c _ _ (by simp only []; omega) (by simp only []; omega)
  unfold cutF chF
  rw [h1]
  have h2 : blen c c.length = (bitsC En.zero c).length := by unfold blen; rw [List.take_length]
  simp [h2, sum_zero]
/-- The frames of the first chunks. -/
def Sr.frs (s : Sr) (id : Nat) (n : Nat) : List Fr := (List.range n).flatMap fun k => match s.at_ k with
  | Option.some (c, cl) => if c = [] then [] else [chF id k c cl]
  | none => []
theorem frs_succ (s : Sr) (id n : Nat) {c : List Sm} {cl : Bool} (h : s.at_ n = Option.some (c, cl)) : s.frs id (n + 1) = s.frs id n ++ (if c = [] then [] else [chF id n c cl]) := by
  unfold Sr.frs
  rw [List.range_succ, List.flatMap_append]
  simp [h]
theorem frs_len (s : Sr) (id : Nat) : ∀ n, (s.frs id n).length ≤ n
  | 0 => by simp [Sr.frs]
  | n + 1 => by
    have ih := frs_len s id n
    unfold Sr.frs at *
    rw [List.range_succ, List.flatMap_append, List.length_append]
    have : ∀ l : List Fr, l.length ≤ 1 → ((List.range n).flatMap fun k => match s.at_ k with | Option.some (c, cl) => if c = [] then [] else [chF id k c cl] | none => []).length + l.length ≤ n + 1 := fun l hl => by omega
    refine this _ ?_
    simp only [List.flatMap_cons, List.flatMap_nil, List.append_nil]
    split
    · split <;> simp
    · simp
/-- A frame in memory. -/
structure Fx where
  f : Fr
  a : Option Addr
  cap : Nat
def Fx.cs (x : Fx) : List Value := x.f.cs x.a x.cap
abbrev Fx.bv (x : Fx) : Value := .slice x.a (pack x.f.bits).length x.cap
theorem Fx.cs_len (x : Fx) : x.cs.length = 11 := rfl
theorem Fx.cs_one (x : Fx) : ∀ u ∈ x.cs, u.oneCell' = true := by intro u hu; simp [Fx.cs, Fr.cs] at hu; rcases hu with rfl | rfl | rfl | rfl | rfl | rfl | rfl | rfl | rfl | rfl | rfl <;> rfl
theorem frame_elem : ElemOf Tryd.prog 37 46 11 72 := elemOf (z := .agg #[.int .u8 0, .int .u32 0, .int .u32 0, .int .u32 0, .int .u32 0, .int .u32 0, .int .u32 0, .bool false, .int .u64 0, .slice none 0 0, .int .i64 0]) (by kernel_rfl) (by kernel_rfl) rfl (by decide)
abbrev OwnF (base : Nat) (w : World) (v : Value) (l : List Fx) : Prop := Own base 46 11 Fx.cs w v l
/-- A row of frames of the call's own. -/
structure FrsAt (base : Nat) (w : World) (v : Value) (l : List Fx) : Prop where
  row : OwnF base w v l
  bits : ∀ x ∈ l, OwnB base w x.bv (pack x.f.bits)
  apart : ∀ x ∈ l, ∀ g, x.bv.ownBlock = some g → v.ownBlock ≠ some g
theorem FrsAt.ov {base : Nat} {w W : World} {v : Value} {l : List Fx} (h : FrsAt base w v l) (hW : ∃ e, W = over w e) : FrsAt base W v l := by
  obtain ⟨e, rfl⟩ := hW
  exact ⟨h.row.over e, fun x hx => (h.bits x hx).over e, h.apart⟩
theorem FrsAt.mono {base base' : Nat} {w : World} {v : Value} {l : List Fx} (h : FrsAt base w v l) (hb : base' ≤ base) : FrsAt base' w v l := ⟨h.row.mono hb, fun x hx => (h.bits x hx).mono hb, h.apart⟩
theorem FrsAt.nil (w : World) (base : Nat) : FrsAt base w (.slice none 0 0) [] := ⟨Own.nil w, by simp, by simp⟩
theorem FrsAt.push {base b : Nat} {w w' : World} {v v' : Value} {l : List Fx} {x : Fx} (h : FrsAt base w v l) (hx : OwnB b w x.bv (pack x.f.bits)) (hb : base ≤ b) (hv : ∀ g, v.ownBlock = some g → g < b) (hc : Chg v.ownBlock.toList w w')
    (ho : OwnF base w' v' (l ++ [x])) (hv' : v'.ownBlock = v.ownBlock ∨ ∃ g, v'.ownBlock = some g ∧ w.heap.size ≤ g) : FrsAt base w' v' (l ++ [x]) := by
  have hxa : ∀ g, x.bv.ownBlock = some g → v.ownBlock ≠ some g := fun g hg he => by have := (Own.lt hx hg).1; have := hv g he; omega
  have hne : ∀ y ∈ l ++ [x], (∀ g, y.bv.ownBlock = some g → v.ownBlock ≠ some g) ∧ OwnB base w y.bv (pack y.f.bits) := by
    intro y hy
    rcases List.mem_append.1 hy with hy | hy
    · exact ⟨h.apart y hy, h.bits y hy⟩
    · simp at hy; subst hy; exact ⟨hxa, hx.mono hb⟩
  refine ⟨ho, fun y hy => Own.chg (hne y hy).2 hc (fun g hg hm => (hne y hy).1 g hg (by simpa using hm)), fun y hy g hg => ?_⟩
  rcases hv' with hv' | ⟨g', hg', hl'⟩
  · rw [hv']; exact (hne y hy).1 g hg
  · rw [hg']; intro he; have := (Own.lt (hne y hy).2 hg).2; simp at he; omega
/-- What a whole chunk's cut comes to. -/
def CutW (w : World) (id k : Nat) (n : Nat) (cl : Bool) (l : List Bool) (BL : Nat) (en : Ending) (w' : World) : Prop :=
  ∃ a cap t0 t1 t2, en = .returned (.tuple #[.agg #[.int .u8 0, .int .u32 0, .int .u32 (id : Nat), .int .u32 (k : Nat), .int .u32 0, .int .u32 0, .int .u32 (n : Nat), .bool cl, .int .u64 0, .slice a (pack l).length cap, .int .i64 (BL : Nat)], .agg #[.int .u32 (t0 : Nat), .int .u32 (t1 : Nat), .int .u32 (t2 : Nat)], .int .u16 0]) ∧ (∃ e, w' = over w e) ∧ OwnB w.heap.size w' (.slice a (pack l).length cap) (pack l)
theorem cut_whole {base : Nat} {w : World} {b n sz mb : Nat} {L : List Se} (h : BkAt base w b n sz mb L) {id : Nat} {s : Sr} (hs : getS (bkOf L) id = s) {k : Nat} {c : List Sm} {cl : Bool} (ha : s.at_ k = Option.some (c, cl)) (hc : c ≠ []) (hcl : s.cl.length ≤ 900) (hok : SrOk s) (W : World) (hW : ∃ e, W = over w e) :
    Calls Tryd.prog 18 #[.pointer (some ⟨b, 0, none⟩), .int .u32 (id : Nat), .agg #[.int .u32 (k : Nat), .int .u32 0, .int .u32 0], .int .i64 ((bitsC En.zero c).length : Nat)] W (CutW W id k c.length cl (bitsC En.zero c) (bitsC En.zero c).length) := by
  subst hs
  have hh : (getS (bkOf L) id).has ⟨k, 0, 0⟩ c cl := ⟨ha, Nat.zero_le _, fun _ => List.length_pos_iff.2 hc, blen_zero _⟩
  have hp : (⟨k, 0, 0⟩ : Pl) ≠ (getS (bkOf L) id).fin := by
    intro he
    rcases hh.at_eq with ⟨h1, _, _⟩ | ⟨_, h2, _⟩
    · have := congrArg Pl.chunk he
      simp only [Sr.fin] at this h1
      omega
    · have := congrArg Pl.count he
      simp only [Sr.fin, h2] at this
      exact hc (List.eq_nil_of_length_eq_zero this.symm)
  have hb := (hh.ok hok)
  have hbl : (bitsC En.zero c).length ≤ 3504 := by have := blen_le hb c.length; unfold blen at this; rwa [List.take_length] at this
  refine (cut_on (bk_ov h hW) id hh hcl hp ((bitsC En.zero c).length : Nat) (by omega)).mono ?_
  rintro en w' ⟨a, cap, rfl, ho, hb⟩
  rw [cutF_all id k cl hc] at hb ⊢
  obtain ⟨t0, t1, t2⟩ := cutPl c cl ⟨k, 0, 0⟩ ((bitsC En.zero c).length : Nat)
  exact ⟨a, cap, t0, t1, t2, rfl, ho, hb⟩
theorem ends_len (c : List Sm) : (endsK c c.length).length = c.length := by unfold endsK; simp
def ChsP (w : World) (fs : List Fr) (en : Ending) (w' : World) : Prop := (∃ e, w' = over w e) ∧ ∃ v l, en = .returned v ∧ l.map Fx.f = fs ∧ FrsAt w.heap.size w' v l
theorem at_part {x : Se} {base : Nat} {w : World} (h : SeAt base w x) {k : Nat} (hk : k < x.ps.length) : ∃ c cl, x.s.at_ k = Option.some (c, cl) ∧ PrtIs x.ps[k] c cl ∧ PrtOk base w x.ps[k] := by
  have hl := h.is_.len
  rcases Nat.lt_or_ge k x.s.cl.length with h1 | h1
  · exact ⟨x.s.cl[k], true, by simp [Sr.at_, h1], h.is_.cl k h1, h.pts _ (List.getElem_mem hk)⟩
  · obtain rfl : k = x.s.cl.length := by omega
    exact ⟨x.s.op, false, by simp [Sr.at_], h.is_.op, h.pts _ (List.getElem_mem hk)⟩
set_option maxRecDepth 100000 in
set_option maxHeartbeats 4000000 in
theorem chunks_any {base : Nat} {w : World} {b n sz mb : Nat} {L : List Se} (h : BkAt base w b n sz mb L) (id : Nat) {s : Sr} (hs0 : getS (bkOf L) id = s) (hcl : s.cl.length ≤ 900) :
    Calls Tryd.prog 11 #[.pointer (some ⟨b, 0, none⟩), .int .u32 (id : Nat)] w (ChsP w (s.frs id (s.cl.length + 1))) := by
  have HA := hid (fun W (hW : ∃ e, W = over w e) => bkAt_any (w := W) (by obtain ⟨e, rfl⟩ := hW; exact h.on e) id)
  rw [hs0] at HA
  have hok : SrOk s := by rw [← hs0]; exact getS_ok h id
  have HC := hid (fun k c cl (ha : s.at_ k = Option.some (c, cl)) (hc : c ≠ []) W (hW : ∃ e, W = over w e) => cut_whole h hs0 ha hc hcl hok W hW)
  clear h hs0
  go_enter Tryd.func11, Tryd.ntmps11
  go_wp2_with (
    (go_at_call 21)
    (with_reducible refine (HA.out _ (by (try unfold Ov); exact ovA)).mono ?_)
    rintro _ w1 ⟨x, rfl, ⟨e1, hw1⟩, hs, hxs⟩
    have O1 : Hid (∃ e, w1 = over w e) := hid (by rw [hw1]; exact (by (try unfold Ov); exact ovA))
    obtain ⟨g, cap, m, ho⟩ := hs.open_
    have HS := hid hs
    have HO := hid ho
    have HX := hid hxs
    have r0 := hs.blk.cell 0 rfl
    rw [ho.hv] at r0
    have l0 := hs.blk.lt
    have hm : s.cl.length = m := by rw [← hxs]; exact ho.hc
    clear hw1 hs ho hxs)
  rw [hm] at hcl
  have hg := HO.out.lt
  have hpl : x.ps.length = m + 1 := HO.out.hl
  go_loopw [5, 6, 7, 8, 9, 10, 18] (fun v _ _ _ _ _ i wr => ∃ (k : Nat) (l : List Fx), k ≤ m + 1 ∧ i = .int .i64 (k : Nat) ∧ l.map Fx.f = s.frs id k ∧ FrsAt w1.heap.size wr v l ∧ Ov w1 wr) (fun _ _ _ _ _ _ i _ => m + 1 - (intOf i).toNat)
  case atStart => exact ⟨0, [], Nat.zero_le _, rfl, rfl, FrsAt.nil _ _, (by (try unfold Ov); exact ovA)⟩
  case round =>
    obtain ⟨k, l, hk, rfl, hmap, hfr, ⟨e0, rfl⟩⟩ := hrel
    obtain ⟨av, cv, rfl, _⟩ := Own.slice Fx.cs_len hfr.row
    have HF := hid hfr
    clear hfr
    by_cases hlt : k < m + 1
    · have hpk : k < x.ps.length := by omega
      obtain ⟨c, cl, hc1, hc2, hc3⟩ := at_part HS.out hpk
      rw [HX.out] at hc1
      have hpo := (HO.out.part hpk).ov hg (W := over w1 e0) ⟨e0, rfl⟩
      obtain ⟨pt, hptx⟩ : ∃ pt, x.ps[k]'hpk = pt := ⟨_, rfl⟩
      rw [hptx] at hpo hc2 hc3
      have hul : pt.us.length = c.length := by rw [hc2.us]; exact ends_len c
      have hss := frs_succ s id k hc1
      have hlen : l.length ≤ k := by have := frs_len s id k; rw [← hmap] at this; simpa using this
      have q0 := hpo.r0
      have q1 := hpo.r1
      have q2 := hpo.r2
      have q3 := hpo.r3
      have q4 := hpo.r4
      have q5 := hpo.r5
      have q6 := hpo.r6
      have q7 := hpo.r7
      have q8 := hpo.r8
      have q9 := hpo.r9
      have q10 := hpo.r10
      rw [hc2.L] at q0 q1
      rw [hul] at q2
      by_cases hc0 : c = []
      · have hcl0 : c.length = 0 := by rw [hc0]; rfl
        rw [hcl0] at q2
        rw [if_pos hc0, List.append_nil] at hss
        have HSS := hid hss
        have HM := hid hmap
        clear hc2 hc3 hpo hptx hss hmap hc1 hc0
        go_wp2
        go_roundw
        case rel => exact ⟨k + 1, l, by omega, by go_num, by rw [HSS.out]; exact HM.out, HF.out.ov (by (try unfold Ov); exact ovA), (by (try unfold Ov); exact ovA)⟩
        case measure => (simp [intOf]; try omega)
      · have hcpos := List.length_pos_iff.2 hc0
        rw [if_neg hc0] at hss
        have HCut := hid (HC.out k c cl hc1 hc0)
        obtain ⟨LL, hLL⟩ : ∃ LL, bitsC En.zero c = LL := ⟨_, rfl⟩
        obtain ⟨cn, hcn⟩ : ∃ cn, c.length = cn := ⟨_, rfl⟩
        have hss2 : s.frs id (k + 1) = s.frs id k ++ [⟨id, ⟨k, 0, 0⟩, cn, cl, 0, LL⟩] := by rw [hss, ← hLL, ← hcn]; rfl
        rw [hLL, hcn] at HCut
        rw [hLL] at q0 q1
        rw [hcn] at q2 hcpos
        have HSS := hid hss2
        have HM := hid hmap
        clear hc2 hc3 hpo hptx hss hss2 hmap hc1 hc0 hLL hcn hul
        go_wp2_with (first
          | (go_at_call 18
             (with_reducible refine (HCut.out _ (by (try unfold Ov); exact ovB O1.out)).mono ?_)
             rintro _ w2 ⟨a2, c2, t0, t1, t2, rfl, ⟨e2, hw2⟩, ho2⟩
             have C2 : Hid (∃ e, w2 = over (over w1 e0) e) := hid (by rw [hw2]; exact (by (try unfold Ov); exact ovA))
             have hsz2 : (over w1 e0).heap.size < w2.heap.size := by rw [hw2]; simp; omega
             have HB2 := hid ho2
             clear hw2 ho2)
          | (at_builtin
             refine gen_w ?_
             intro W3 hW3
             have C3 : Hid (∃ e, W3 = over w2 e) := hid (by rw [hW3]; exact (by (try unfold Ov); exact ovA))
             have C13 : Hid (∃ e, W3 = over (over w1 e0) e) := hid (by rw [hW3]; exact (by (try unfold Ov); exact ovB C2.out))
             have S3 : Hid (Sl 11 Fx.cs W3 (some ⟨w2.heap.size + 1 + 1, 0, none⟩) 1 [(⟨⟨id, ⟨k, 0, 0⟩, cn, cl, 0, LL⟩, a2, c2⟩ : Fx)]) := hid (by rw [hW3]; exact (by (repeat with_reducible refine Sl.drew ?_); exact Sl.one_new (y := (⟨⟨id, ⟨k, 0, 0⟩, cn, cl, 0, LL⟩, a2, c2⟩ : Fx)) (by simp; try omega)))
             have HF3 := hid (HF.out.ov C13.out)
             have hav : ∀ g, (Value.slice av l.length cv).ownBlock = some g → g < (over w1 e0).heap.size := fun g hg => (Own.lt HF.out.row hg).2
             have hbw3 : w1.heap.size ≤ W3.heap.size := by obtain ⟨z, hz⟩ := C13.out; rw [hz]; simp; omega
             have HB3 := hid (Own.chg (F := []) (Own.mono (base' := (over w1 e0).heap.size) HB2.out (by simp)) (Chg.of_ov C3.out []) (by simp))
             refine wpList_append' frame_elem Fx.cs_len Fx.cs_one rfl (.tmp 40) (.tmp 42) rfl (base := w1.heap.size) (v := .slice av l.length cv) (ys := l) (xs := [(⟨⟨id, ⟨k, 0, 0⟩, cn, cl, 0, LL⟩, a2, c2⟩ : Fx)]) HF3.out.row rfl rfl hbw3 S3.out (by simp only [List.length_singleton]; unfold maxLen; omega) (by simp only [List.length_singleton]; omega) ?_
             intro v5 m5 ho5 hv5
             refine gen_w ?_
             intro W5 hW5
             have hc5 : Chg (Value.slice av l.length cv).ownBlock.toList W3 W5 := by rw [hW5]; exact chg_chg _ _ _
             rw [← hW5] at ho5
             have HF5 := hid (FrsAt.push (x := (⟨⟨id, ⟨k, 0, 0⟩, cn, cl, 0, LL⟩, a2, c2⟩ : Fx)) HF3.out HB3.out (by simp) hav hc5 ho5 hv5)
             have C15 : Hid (∃ e, W5 = over w1 e) := hid (Chg.ov (ov_tr ⟨e0, rfl⟩ C13.out) hc5 (fun g hg => (Own.lt HF3.out.row (by simpa using hg)).1))
             clear hW3 hW5 hc5 ho5 hv5 hav))
        go_roundw
        case rel =>
          refine ⟨k + 1, l ++ [(⟨⟨id, ⟨k, 0, 0⟩, cn, cl, 0, LL⟩, a2, c2⟩ : Fx)], by omega, by go_num, ?_, ?_, ?_⟩
          · rw [HSS.out, List.map_append, HM.out]; rfl
          · exact HF5.out
          · exact C15.out
        case measure => (simp [intOf]; try omega)
    · obtain rfl : k = m + 1 := by omega
      have HM := hid hmap
      clear hmap
      go_wp2
      go_ret
      refine ⟨(by (try unfold Ov); exact ovB O1.out), _, l, rfl, by rw [hm]; exact HM.out, FrsAt.mono HF.out ?_⟩
      obtain ⟨z, hz⟩ := O1.out; rw [hz]; simp
end Go.Proofs.YtojkoijdndinoaaDoor
namespace Go.Proofs.YtojkoijdndinoaaDoor
set_option linter.unusedVariables false
set_option linter.unusedSimpArgs false
open Go.RowKit
theorem frs_cl {s : Sr} (hok : SrOk s) (id : Nat) : ∀ n, n ≤ s.cl.length → s.frs id n = (List.range n).map (fun k => chF id k (s.cl.getD k []) true)
  | 0, _ => rfl
  | n + 1, h => by
    have hn : n < s.cl.length := h
    have ha : s.at_ n = Option.some (s.cl[n], true) := by simp [Sr.at_, hn]
    rw [frs_succ s id n ha, frs_cl hok id n (by omega), if_neg (hok.cl _ (List.getElem_mem hn)).1, List.range_succ, List.map_append]
    simp [hn]
theorem frs_all {s : Sr} (hok : SrOk s) (id : Nat) : s.frs id (s.cl.length + 1) = (List.range s.cl.length).map (fun k => chF id k (s.cl.getD k []) true) ++ (if s.op = [] then [] else [chF id s.cl.length s.op false]) := by
  have ha : s.at_ s.cl.length = Option.some (s.op, false) := by simp [Sr.at_]
  rw [frs_succ s id _ ha, frs_cl hok id _ (Nat.le_refl _)]
/-- What is known of a frame among a series' frames. -/
structure FrK (sz : Nat) (fs : List Fr) (k : Nat) (f : Fr) : Prop where
  cl : f.closed = decide (f.count = sz)
  last : f.count ≠ sz → k + 1 = fs.length
  chunk : f.from_.chunk = k
  le : f.count ≤ sz
theorem frs_k {s : Sr} (hok : SrOk s) {sz : Nat} (hf : ∀ c ∈ s.cl, c.length = sz) (ho : s.op.length < sz) (id : Nat) (k : Nat) (f : Fr) (h : (s.frs id (s.cl.length + 1))[k]? = Option.some f) : FrK sz (s.frs id (s.cl.length + 1)) k f := by
  rw [frs_all hok] at h ⊢
  rw [List.getElem?_append] at h
  simp only [List.length_map, List.length_range] at h
  split at h
  · rename_i hk
    simp [hk] at h
    have := hf _ (List.getElem_mem hk)
    subst h
    exact ⟨by simp [chF, this], fun h => absurd this h, rfl, by simp [chF, this]⟩
  · rename_i hk
    split at h
    · simp at h
    · rename_i h0
      have hk0 : k - s.cl.length = 0 := by
        rcases Nat.eq_zero_or_pos (k - s.cl.length) with h1 | h1
        · exact h1
        · rw [List.getElem?_eq_none (by simp only [List.length_cons, List.length_nil]; omega)] at h; cases h
      rw [hk0] at h
      simp at h
      have hk1 : k = s.cl.length := by omega
      subst h
      refine ⟨?_, fun _ => ?_, hk1.symm, ?_⟩
      · show false = decide (s.op.length = sz)
        rw [decide_eq_false (by omega)]
      · simp [h0, hk1]
      · show s.op.length ≤ sz
        omega
theorem range_getD (l : List (List Sm)) : (List.range l.length).map (fun k => (l.getD k []).length) = l.map List.length := by
  apply List.ext_getElem
  · simp
  · intro i h1 h2; simp at h1 h2 ⊢; simp [h2]
theorem frs_sum {s : Sr} (hok : SrOk s) (id : Nat) : ((s.frs id (s.cl.length + 1)).map Fr.count).sum = s.all.length := by
  rw [frs_all hok, List.map_append, List.sum_append, List.map_map]
  have h1 : (List.range s.cl.length).map (Fr.count ∘ fun k => chF id k (s.cl.getD k []) true) = s.cl.map List.length := range_getD s.cl
  rw [h1]
  unfold Sr.all
  rw [List.length_append, List.length_flatten]
  split
  · rename_i h; simp [h]
  · simp [chF]
theorem sum_take_le' (l : List Nat) (k : Nat) : (l.take k).sum ≤ l.sum := by
  conv => rhs; rw [← List.take_append_drop k l, List.sum_append]
  omega
theorem SlF.at_ {w : World} {a : Option Addr} {cap : Nat} {xs : List Fx} (h : Sl 11 Fx.cs w a cap xs) {k : Nat} (hk : k < xs.length) : ∃ b o, a = Option.some ⟨b, o, none⟩ ∧ b < w.heap.size ∧ ∀ j u, xs[k].cs[j]? = Option.some u → w.cell? ⟨b, o + k * 11 + j, none⟩ = Option.some u := by
  obtain ⟨b, o, ha, hb, hc⟩ := h.rec_ k _ (List.getElem?_eq_getElem hk)
  exact ⟨b, o, ha, hb, hc⟩
/-- A series of a book that was laid. -/
theorem laid_full {W : World} {base b mb sz : Nat} {L : List Se} {S : List (Nat × Sr)} {rs : List Rs} (h : Laid W base b mb sz L S rs) {k id : Nat} {s : Sr} (hk : k < rs.length) (K : LaidK L S rs k id s) : (∀ c ∈ s.cl, c.length = sz) ∧ s.op.length < sz := by
  obtain ⟨h2, h3, _⟩ := h.at_ k hk
  have h5 := K.nid hk
  rw [h3] at h5
  have h6 : s = S[k].2 := by
    have := K.get
    rw [h.eq, ← h5, getS_at h.I.ids h2] at this
    exact this.symm
  rw [h6]
  exact h.I.full _ (List.getElem_mem h2)
end Go.Proofs.YtojkoijdndinoaaDoor
namespace Go.Proofs.YtojkoijdndinoaaDoor
set_option linter.unusedVariables false
set_option linter.unusedSimpArgs false
open Go.RowKit
attribute [local go_sem] over_drew chg_drew
attribute [local go_sem high] place_eql place_neq

set_option maxRecDepth 100000 in
set_option maxHeartbeats 4000000 in
theorem bookKeeps_any (size : Int) (hz : -9223372036854775808 ≤ size ∧ size ≤ 9223372036854775807) (xs : List Opr) (hx : ∀ o ∈ xs, o.wf) (a : Option Addr) (cap : Nat) (w : World) (hT : TabW w) (hs : SlO w a cap xs) :
    Calls Tryd.prog 3 #[.int .i64 size, .slice a xs.length cap] w (Ret w (.bool true)) := by
  have HHv := hid (fun W (hW : SlO W a cap xs) => heavy_any xs a cap W hW)
  have HKn := hid (fun W (hW : TabW W) => known_any W hW)
  obtain ⟨H, hH⟩ : ∃ H, heavyB xs = H := ⟨_, rfl⟩
  rw [hH] at HHv
  cases H with
  | true =>
    go_enter Tryd.func3, Tryd.ntmps3
    go_wp2_with (first | (go_at_call 5; (with_reducible refine (HHv.out _ (by exact slA hs)).mono ?_); rintro _ _ ⟨⟨e1, rfl⟩, rfl⟩) | (go_at_call 6; (with_reducible refine (HKn.out _ (by exact tabA hT)).mono ?_); rintro _ _ ⟨⟨e2, rfl⟩, rfl⟩))
    go_ret
    exact ⟨(by (try unfold Ov); exact ovA), rfl⟩
  | false =>
    have hl := heavy_len hH
    have HLay := hid (fun W (h1 : TabW W) (h2 : SlO W a cap xs) => layB_any size hz xs hx hl a cap W h1 h2)
    have hsz := lsz_ok size
    have hsi : 1 + max size 0 % 24 = (lsz size : Int) := by unfold lsz; omega
    obtain ⟨sz, hsz0⟩ : ∃ sz, lsz size = sz := ⟨_, rfl⟩
    rw [hsz0] at HLay hsz hsi
    have HSI := hid hsi
    have hol : (opsL xs).length ≤ 60 := by simp [opsL]; exact hl
    obtain ⟨ops, hops⟩ : ∃ ops, opsL xs = ops := ⟨_, rfl⟩
    rw [hops] at HLay hol
    have hTw := hT
    clear hx hH hops hsz0 hsi
    go_enter Tryd.func3, Tryd.ntmps3
    go_wp2_with (first
      | (go_at_call 5; (with_reducible refine (HHv.out _ (by exact slA hs)).mono ?_); rintro _ _ ⟨⟨e1, rfl⟩, rfl⟩)
      | (go_at_call 6; (with_reducible refine (HKn.out _ (by exact tabA hT)).mono ?_); rintro _ _ ⟨⟨e2, rfl⟩, rfl⟩)
      | (go_at_call 7
         (with_reducible refine (HLay.out _ (by exact tabA hT) (by exact slA hs)).mono ?_)
         rintro _ W1 ⟨b, mb, L, al, cl, rs, rfl, ⟨e1, hW1⟩, hb, he, hsl, hrow, hmap⟩
         have O1 : Hid (∃ e, W1 = over w e) := hid (by rw [hW1]; exact (by (try unfold Ov); exact ovA))
         have hLd := laid_of hsz.1 hol hb he hmap
         have HL := hid hLd
         have HSL := hid hsl
         have HROW := hid hrow
         have hrl : rs.length ≤ 60 := by rw [hLd.len]; exact hLd.I.len
         have hLl : L.length = rs.length := by rw [hLd.len, ← hLd.eq]; simp
         have HT1 := hid (TabW.ov hTw O1.out)
         have HSer := hid (fun W (hW : ∃ e, W = over W1 e) => series_any (bk_ov hLd.bk hW) (by omega))
         obtain ⟨ks, hks⟩ : ∃ ks, srtN (L.map (·.id)) = ks := ⟨_, rfl⟩
         have hkl : ks.length = rs.length := by rw [← hks, srtN_len]; simp [hLl]
         rw [hks] at HSer
         clear hW1 hb he hmap hLd hsl hrow hks)
      | (go_at_call 8; (with_reducible refine (HSer.out _ (by (try unfold Ov); exact ovA)).mono ?_); rintro _ _ ⟨⟨e2, rfl⟩, v2, rfl, o2⟩; obtain ⟨a2, c2, rfl, _⟩ := Own.slice wcs_len o2; rw [hkl]; clear o2))
    go_loopw [7] (fun i wr => ∃ k : Nat, k ≤ rs.length ∧ i = .int .i64 (k : Nat) ∧ Ov W1 wr) (fun i _ => rs.length - (intOf i).toNat)
    case atStart => exact ⟨0, Nat.zero_le _, rfl, (by (try unfold Ov); exact ovA)⟩
    case round =>
      obtain ⟨k, hk, rfl, ⟨e0, rfl⟩⟩ := hrel
      by_cases hlt : k < rs.length
      · obtain ⟨bl, off, rfl, hbl, x0, x1⟩ := SlR.at_ HSL.out hlt
        obtain ⟨id, s, hK⟩ := HL.out.k hlt
        have hfu := laid_full HL.out hlt hK
        have hok := hK.ok
        have hfk := frs_k hok hfu.1 hfu.2 id
        have hfs := frs_sum hok id
        have HRW : Hid (SlM W1 rs[k].a rs[k].c s.all) := hid (by have h := HROW.out _ (List.getElem_mem hlt); rw [hK.l hlt] at h; exact h)
        rw [hK.nid hlt] at x0
        rw [hK.l hlt] at x1
        obtain ⟨ra, hra⟩ : ∃ ra, rs[k].a = ra := ⟨_, rfl⟩
        obtain ⟨rc, hrc⟩ : ∃ rc, rs[k].c = rc := ⟨_, rfl⟩
        rw [hra, hrc] at HRW x1
        have hcl := hK.cl
        have hall := hK.all
        have HSmp := hid (fun W (hW : ∃ e, W = over W1 e) => samples_any (bk_ov HL.out.bk hW) (TabW.ov HT1.out hW) id hK.get (by omega) (by omega))
        have HSame := hid (fun A C W (h1 : SlM W A C s.all) (h2 : SlM W ra rc s.all) => rcsame_any s.all s.all (by omega) A C ra rc W h1 h2)
        rw [decide_eq_true rfl] at HSame
        have HCh := hid (fun W (hW : ∃ e, W = over W1 e) => chunks_any (bk_ov HL.out.bk hW) id hK.get (by omega))
        obtain ⟨fs, hfs0⟩ : ∃ fs, s.frs id (s.cl.length + 1) = fs := ⟨_, rfl⟩
        rw [hfs0] at hfk hfs HCh
        obtain ⟨sl, hsl⟩ : ∃ l, s.all = l := ⟨_, rfl⟩
        rw [hsl] at x1 hall HSmp HSame HRW hfs
        obtain ⟨ll, hll⟩ : ∃ l, sl.length = l := ⟨_, rfl⟩
        rw [hll] at x1 HSame hall hfs
        have HLL := hid hll
        have HFK := hid hfk
        have HFS := hid hfs
        clear hK hra hrc hfu hok hfk hfs hfs0 hsl hll
        go_wp2
        refine M2.wp_region_mix [6, 12] 14 (by kernel_rfl) (by kernel_rfl) (by decide) ?_
        simp only [List.take_succ_cons, List.take_zero, List.drop_succ_cons, List.drop_zero]
        with_reducible refine M2.mixL_quiet 6 (by kernel_rfl) ?_
        simp only [List.take_succ_cons, List.take_zero, List.drop_succ_cons, List.drop_zero]
        repeat (go_big_quiet_step (fail))
        with_reducible refine wpQuiet_nil ?_
        with_reducible refine M2.mixL_eff (by decide) ?_
        go_wp2_with ((first | (go_at_call 10; (with_reducible refine (HSmp.out _ (by (try unfold Ov); exact ovA)).mono ?_); rintro _ _ ⟨⟨e6, rfl⟩, v6, rfl, o6⟩; obtain ⟨a6, c6, rfl, sx6⟩ := Own.slice Sm.cs_len o6; (try simp only [over_drew] at sx6); have S6 := hid sx6; (try rw [HLL.out]); clear o6 sx6) | (go_at_call 9; (with_reducible refine (HSame.out _ _ _ (by exact slA S6.out) (by exact slA HRW.out)).mono ?_); rintro _ _ ⟨⟨e7, rfl⟩, rfl⟩)))
        refine M2.MixQ.mk (by (try unfold Ov); exact ovA) ?_
        with_reducible refine M2.mixL_quiet 5 (by kernel_rfl) ?_
        simp only [List.take_succ_cons, List.take_zero, List.drop_succ_cons, List.drop_zero]
        repeat (go_big_quiet_step (fail))
        with_reducible refine wpQuiet_nil ?_
        with_reducible refine M2.mixL_eff (by decide) ?_
        go_wp2_with ((first | (go_at_call 10; (with_reducible refine (HSmp.out _ (by (try unfold Ov); exact ovA)).mono ?_); rintro _ _ ⟨⟨e6, rfl⟩, v6, rfl, o6⟩; obtain ⟨a6, c6, rfl, sx6⟩ := Own.slice Sm.cs_len o6; (try simp only [over_drew] at sx6); have S6 := hid sx6; (try rw [HLL.out]); clear o6 sx6) | (go_at_call 9; (with_reducible refine (HSame.out _ _ _ (by exact slA S6.out) (by exact slA HRW.out)).mono ?_); rintro _ _ ⟨⟨e7, rfl⟩, rfl⟩)))
        refine M2.MixQ.mk (by (try unfold Ov); exact ovA) ?_
        with_reducible refine M2.mixL_quiet 1 (by kernel_rfl) ?_
        simp only [List.take_succ_cons, List.take_zero, List.drop_succ_cons, List.drop_zero]
        repeat (go_big_quiet_step (fail))
        with_reducible refine wpQuiet_nil ?_
        with_reducible refine M2.mixL_nil ?_
        with_reducible refine M2.mixL_nil ?_
        go_wp2_with (go_at_call 11; (with_reducible refine (HCh.out _ (by (try unfold Ov); exact ovA)).mono ?_); rintro _ w8 ⟨hov8, v8, fx, rfl, hm8, hf8⟩; obtain ⟨a8, c8, rfl, s8⟩ := Own.slice Fx.cs_len hf8.row; have O8 : Hid (∃ e, w8 = over W1 e) := hid (ov_tr (by (try unfold Ov); exact ovA) hov8); have S8 := hid s8; have HM8 := hid hm8; clear hov8 hm8 hf8 s8)
        have HFL : Hid (fx.length = fs.length) := hid (by rw [← HM8.out]; simp)
        have y0 : w8.cell? ⟨bl, off + k * 2, none⟩ = some (.int .u32 (id : Nat)) := by obtain ⟨e, he⟩ := O8.out; rw [he, cell_over _ _ _ _ hbl]; exact x0
        have y1 : w8.cell? ⟨bl, off + k * 2 + 1, none⟩ = some (.slice ra ll rc) := by obtain ⟨e, he⟩ := O8.out; rw [he, cell_over _ _ _ _ hbl]; exact x1
        have hb8 : bl < w8.heap.size := by obtain ⟨e, he⟩ := O8.out; rw [he]; simp; omega
        have hmx := len_max S8.out
        go_loopw [9, 10] (fun nv kv wx => ∃ q : Nat, q ≤ fx.length ∧ kv = .int .i64 (q : Nat) ∧ nv = .int .i64 (((fs.take q).map Fr.count).sum : Nat) ∧ Ov w8 wx) (fun _ kv _ => fx.length - (intOf kv).toNat)
        case atStart => exact ⟨0, Nat.zero_le _, rfl, rfl, over_self _⟩
        case round =>
          obtain ⟨q, hq, rfl, rfl, ⟨e9, rfl⟩⟩ := hrel
          by_cases hq2 : q < fx.length
          · obtain ⟨b8, o8, rfl, hb8', hcell⟩ := SlF.at_ S8.out hq2
            have z3 := hcell 3 _ rfl
            have z6 := hcell 6 _ rfl
            have z7 := hcell 7 _ rfl
            have hqf : fs[q]? = Option.some fx[q].f := by rw [← HM8.out]; simp [hq2]
            have hK := HFK.out q _ hqf
            have htk : ((fs.take (q + 1)).map Fr.count).sum = ((fs.take q).map Fr.count).sum + fx[q].f.count := by
              rw [List.take_add_one, hqf]; simp
            have hle := sum_take_le' (fs.map Fr.count) (q + 1)
            rw [← List.map_take, HFS.out] at hle
            rw [hK.chunk] at z3
            rw [hK.cl] at z7
            have hlast := hK.last
            rw [← HFL.out] at hlast
            have hcle := hK.le
            obtain ⟨ct, hct⟩ : ∃ c, fx[q].f.count = c := ⟨_, rfl⟩
            rw [hct] at z6 z7 htk hlast hcle
            obtain ⟨sm, hsm⟩ : ∃ c, ((fs.take q).map Fr.count).sum = c := ⟨_, rfl⟩
            rw [hsm] at htk ⊢
            rw [htk] at hle
            have HTK := hid htk
            have hsi := HSI.out
            clear hcell hqf hK hct hsm htk
            by_cases hcs : ct = sz
            · subst hcs
              rw [decide_eq_true rfl] at z7
              clear hlast
              go_wp2
              go_roundw
              case rel => exact ⟨q + 1, by omega, by go_num, by rw [HTK.out]; go_num, (by (try unfold Ov); exact ovA)⟩
              case measure => (simp [intOf]; try omega)
            · have hl1 := hlast hcs
              rw [decide_eq_false hcs] at z7
              have hcs2 : ((ct : Int) == (sz : Int)) = false := by simp; omega
              clear hlast
              go_wp2
              go_roundw
              case rel => exact ⟨q + 1, by omega, by go_num, by rw [HTK.out]; go_num, (by (try unfold Ov); exact ovA)⟩
              case measure => (simp [intOf]; try omega)
          · obtain rfl : q = fx.length := by omega
            have hq3 : fs.take fx.length = fs := List.take_of_length_le (by have := HFL.out; omega)
            rw [hq3, HFS.out]
            go_wp2
            go_roundw
            case rel => exact ⟨k + 1, by omega, by go_num, (by (try unfold Ov); exact ovB O8.out)⟩
            case measure => (simp [intOf]; try omega)
      · obtain rfl : k = rs.length := by omega
        go_wp2
        go_ret
        exact ⟨(by (try unfold Ov); exact ovB O1.out), rfl⟩
end Go.Proofs.YtojkoijdndinoaaDoor
