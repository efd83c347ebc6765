import Derived.Test.YtnihngljmmbenaaGreatDoorBkV
import Derived.Test.YtnihngljmmbenaaGreatDoorHD
import Derived.Test.YtnihngljmmbenaaGreatDoorGM
import Derived.Test.YtnihngljmmbenaaGreatDoorBkC
namespace Go.Proofs.YtnihngljmmbenaaGreatDoor
set_option linter.unusedVariables false
set_option linter.unusedSimpArgs false
section
open Go.RowKit
attribute [local go_sem] over_drew chg_drew

def NewPost (w : World) (n sz : Nat) (en : Ending) (w' : World) : Prop := ∃ b mb, en = .returned (.pointer (some ⟨b, 0, none⟩)) ∧ (∃ e, w' = over w e) ∧ BkAt w.heap.size w' b n sz mb []
set_option maxRecDepth 100000 in
set_option maxHeartbeats 1000000 in
theorem new_any (n sz : Nat) (hn : 1 ≤ n ∧ n ≤ 64) (hs : 1 ≤ sz ∧ sz ≤ 24) (w : World) : Calls Tryz.prog 28 #[.int .i64 (n : Nat), .int .i64 (sz : Nat)] w (NewPost w n sz) := by
  go_enter Tryz.func28, Tryz.ntmps28
  have hmk : ∀ W : World, (Instr.makeMap 109 none).run Tryz.prog W = .ok (.map (some W.heap.size)) (W.alloc (.map #[] 0)) := fun W => rfl
  go_wp2_with fail
  go_ret
  refine ⟨w.heap.size + 1, w.heap.size, rfl, ovA, ?_⟩
  have M : MapAt ((w.alloc (.map #[] 0)).alloc (.cells #[.int .i64 (n : Nat), .int .i64 (sz : Nat), .map (some w.heap.size)] 112)) w.heap.size [] := MapAt.chg (MapAt.new w) ((Chg.refl [] _).alloc _) (by simp)
  exact ⟨Blk.new' (by simp), M, by simp, List.Pairwise.nil, by simp, by omega, ⟨by omega, by omega⟩, by simp, by simp, by simp⟩
set_option maxRecDepth 100000 in
set_option maxHeartbeats 1000000 in
theorem put_no {base : Nat} {w : World} {b n sz mb : Nat} {L : List Se} (h : BkAt base w b n sz mb L) (hn : L.length ≤ n) (hn2 : n ≤ 64) {i : Nat} (hi : i < L.length) {id : Nat} (hid_ : L[i].id = id) (hcl : L[i].s.cl.length ≤ 900) (xs : Sm) (hm : ¬ L[i].s.may xs.t) :
    Calls Tryz.prog 39 #[.pointer (some ⟨b, 0, none⟩), .int .u32 (id : Nat), smV xs.t xs.v] w (Ret w (.int .u16 120)) := by
  have HMay : Hid (∀ W, (∃ e, W = over w e) → Calls Tryz.prog 77 #[.pointer (some ⟨b, 0, none⟩), .int .u32 (id : Nat), smV xs.t xs.v] W (Ret W (.int .u16 120))) := hid (fun W hW => by
    have k := may_old (w := W) (by obtain ⟨e, rfl⟩ := hW; exact h.on e) hn hn2 hi hid_ (by omega) xs.t xs.v
    rw [if_neg hm] at k; exact k)
  go_enter Tryz.func39, Tryz.ntmps39
  go_wp2_with (go_at_call 77; (with_reducible refine (HMay.out _ ovA).mono ?_); rintro _ _ ⟨⟨e1, rfl⟩, rfl⟩)
  go_ret
  exact ⟨ovA, rfl⟩
def PutB (w : World) (base b n sz mb : Nat) (L : List Se) (id : Nat) (xs : Sm) (en : Ending) (w' : World) : Prop :=
  if (getS (bkOf L) id).may xs.t then BkPut w base b n sz mb L (putS sz (bkOf L) id xs) en w' else Ret w (.int .u16 120) en w'
theorem bk_nodup {base : Nat} {w : World} {b n sz mb : Nat} {L : List Se} (h : BkAt base w b n sz mb L) : ((bkOf L).map (·.1)).Nodup := by
  have := h.ids
  unfold bkOf
  rw [List.map_map]
  exact this
theorem put_any {base : Nat} {w : World} {b n sz mb : Nat} {L : List Se} (h : BkAt base w b n sz mb L) (hbw : base ≤ w.heap.size) (hT : TabW w) (hn : L.length < n) (hn2 : n ≤ 64) (hsz : sz ≤ 24) (hsz1 : 1 ≤ sz) {id : Nat} (h32 : id < 4294967296) (hcl : (getS (bkOf L) id).cl.length ≤ 900) (xs : Sm) (hx : xs.wf) :
    Calls Tryz.prog 39 #[.pointer (some ⟨b, 0, none⟩), .int .u32 (id : Nat), smV xs.t xs.v] w (PutB w base b n sz mb L id xs) := by
  have hnd := bk_nodup h
  rcases get_or L id with ⟨i, hi, h1, h2⟩ | ⟨h1, h2⟩
  · have hib : i < (bkOf L).length := by simpa using hi
    have e1 : (bkOf L)[i] = (L[i].id, L[i].s) := by simp
    have e3 : putS sz (bkOf L) id xs = (bkOf L).set i (id, L[i].s.put sz xs) := by
      have k := putS_old (sz := sz) hnd hib xs
      rw [e1] at k
      rw [← h1]; exact k
    rw [h2] at hcl
    by_cases hm : L[i].s.may xs.t
    · refine (put_old h hbw hT (Nat.le_of_lt hn) hn2 hsz hi h1 hcl xs hx hm).mono ?_
      intro en w' hp
      unfold PutB
      rw [h2, if_pos hm, e3]; exact hp
    · refine (put_no h (Nat.le_of_lt hn) hn2 hi h1 hcl xs hm).mono ?_
      intro en w' hp
      unfold PutB
      rw [h2, if_neg hm]; exact hp
  · have e3 : putS sz (bkOf L) id xs = bkOf L ++ [(id, Sr.zero.put sz xs)] := by
      refine putS_new (fun x hx => ?_) xs
      obtain ⟨y, hy, rfl⟩ := List.mem_map.1 hx
      exact h1 y hy
    have hm : (getS (bkOf L) id).may xs.t := by rw [h2]; simp [Sr.may, Sr.zero]
    refine (put_new h hbw hT hn hn2 hsz hsz1 h1 h32 xs hx).mono ?_
    intro en w' hp
    unfold PutB
    rw [if_pos hm, e3]; exact hp
end
section
open Go.RowKit

theorem TabW.cg {F : List Nat} {w w' : World} (h : TabW w) (hc : Chg F w w') (hF : 0 ∉ F) : TabW w' := by
  obtain ⟨m, rfl⟩ := chg_of hc
  exact TabW.chg h m hF
structure Rs where
  id : Nat
  a : Option Addr
  c : Nat
  l : List Sm
def Rs.cs (r : Rs) : List Value := [.int .u32 (r.id : Nat), .slice r.a r.l.length r.c]
theorem Rs.cs_len (r : Rs) : r.cs.length = 2 := rfl
theorem Rs.cs_one (r : Rs) : ∀ u ∈ r.cs, u.oneCell' = true := by intro u hu; simp [Rs.cs] at hu; rcases hu with rfl | rfl <;> rfl
theorem rs_elem : ElemOf Tryz.prog 34 60 2 32 := elemOf (z := .agg #[.int .u32 0, .slice none 0 0]) (by kernel_rfl) (by kernel_rfl) rfl (by decide)
abbrev OwnR (base : Nat) (w : World) (v : Value) (l : List Rs) : Prop := Own base 60 2 Rs.cs w v l
abbrev Rs.v (r : Rs) : Value := .slice r.a r.l.length r.c
def bkB (b mb : Nat) (L : List Se) : List Nat := b :: mb :: (L.flatMap Se.fs ++ bkD L)
theorem bkF_B {b mb : Nat} {L : List Se} {k : Nat} (h : k ∈ bkF mb L) : k ∈ bkB b mb L := by
  rcases List.mem_cons.1 h with rfl | h
  · simp [bkB]
  · simp [bkB, h]
theorem BkAt.cg {base : Nat} {w w' : World} {b n sz mb : Nat} {L : List Se} {F : List Nat} (h : BkAt base w b n sz mb L) (hc : Chg F w w') (hF : ∀ k ∈ bkB b mb L, k ∉ F) : BkAt base w' b n sz mb L := by
  have hb : b ∉ F := hF _ (by simp [bkB])
  have hm : mb ∉ F := hF _ (by simp [bkB])
  refine ⟨Blk.chg h.blk hc hb, MapAt.chg h.map hc hm, fun x hx => ?_, h.sep, h.hd, h.ne, h.lo, h.ids, h.id32, h.op⟩
  refine SeAt.chg (h.ser x hx) hc (fun k hk => hF k ?_) (fun k hk => hF k ?_)
  · simp only [bkB, List.mem_cons, List.mem_append, List.mem_flatMap]
    exact .inr (.inr (.inl ⟨x, hx, hk⟩))
  · simp only [bkB, bkD, List.mem_cons, List.mem_append, List.mem_flatMap]
    exact .inr (.inr (.inr ⟨x, hx, hk⟩))
theorem BkAt.blt {base : Nat} {w : World} {b n sz mb : Nat} {L : List Se} (h : BkAt base w b n sz mb L) : ∀ k ∈ bkB b mb L, base ≤ k ∧ k < w.heap.size := by
  intro k hk
  simp only [bkB, bkD, List.mem_cons, List.mem_append, List.mem_flatMap] at hk
  rcases hk with rfl | rfl | ⟨x, hx, hk⟩ | ⟨x, hx, hk⟩
  · exact ⟨h.lo.1, h.blk.lt⟩
  · exact ⟨h.lo.2, h.map.lt⟩
  · exact (h.ser x hx).flt k hk
  · exact (h.ser x hx).dlt k hk
structure LayR (W0 w : World) (base b mb sz : Nat) (L : List Se) (v : Value) (rs : List Rs) : Prop where
  bk : BkAt base w b 64 sz mb L
  ch : Chg [mb] W0 w
  all : OwnR W0.heap.size w v rs
  rows : ∀ r ∈ rs, OwnM W0.heap.size w r.v r.l
  sep1 : ∀ g, v.ownBlock = some g → g ∉ bkB b mb L
  sep2 : ∀ r ∈ rs, ∀ g, r.v.ownBlock = some g → g ∉ bkB b mb L ∧ v.ownBlock ≠ some g
  bs : ∀ k ∈ bkB b mb L, k = b ∨ k = mb ∨ W0.heap.size ≤ k
theorem LayR.ov {W0 w w' : World} {base b mb sz : Nat} {L : List Se} {v : Value} {rs : List Rs} (h : LayR W0 w base b mb sz L v rs) (hc : Chg [] w w') : LayR W0 w' base b mb sz L v rs :=
  ⟨h.bk.cg hc (by simp), Chg.then h.ch hc (by simp), Own.chg h.all hc (by simp), fun r hr => Own.chg (h.rows r hr) hc (by simp), h.sep1, h.sep2, h.bs⟩
theorem LayR.start {W0 : World} {base b mb sz : Nat} (h : BkAt base W0 b 64 sz mb []) : LayR W0 W0 base b mb sz [] (.slice none 0 0) [] :=
  ⟨h, Chg.refl _ _, Own.nil _, by simp, fun g hg => by simp [Value.ownBlock] at hg, by simp, fun k hk => by
    simp [bkB, bkD] at hk
    rcases hk with rfl | rfl
    · exact .inl rfl
    · exact .inr (.inl rfl)⟩
theorem LayR.put {W0 w w' : World} {base b mb sz : Nat} {L : List Se} {v : Value} {rs : List Rs} {S' : List (Nat × Sr)} {en : Ending} (h : LayR W0 w base b mb sz L v rs) (hp : BkPut w base b 64 sz mb L S' en w') :
    en = .returned (.int .u16 0) ∧ ∃ L', LayR W0 w' base b mb sz L' v rs ∧ bkOf L' = S' := by
  obtain ⟨rfl, L', hc, hb, he, hf, hd⟩ := hp
  have hnew : ∀ k ∈ bkB b mb L', k ∈ bkB b mb L ∨ w.heap.size ≤ k := by
    intro k hk
    simp only [bkB, List.mem_cons, List.mem_append] at hk
    rcases hk with rfl | rfl | hk | hk
    · exact .inl (by simp [bkB])
    · exact .inl (by simp [bkB])
    · rcases hf k (List.mem_cons_of_mem _ hk) with h1 | h1
      · exact .inl (bkF_B h1)
      · exact .inr h1
    · rcases hd k hk with h1 | h1
      · exact .inl (by simp [bkB, h1])
      · exact .inr h1
  have hw : W0.heap.size ≤ w.heap.size := h.ch.size
  have hbw := h.bk.blt
  refine ⟨rfl, L', ⟨hb, Chg.then h.ch hc (fun k hk => ?_), Own.chg h.all hc (fun g hg hm => h.sep1 g hg (bkF_B hm)), fun r hr => Own.chg (h.rows r hr) hc (fun g hg hm => (h.sep2 r hr g hg).1 (bkF_B hm)), fun g hg hm => ?_, fun r hr g hg => ⟨fun hm => ?_, (h.sep2 r hr g hg).2⟩, fun k hk => ?_⟩, he⟩
  · rcases List.mem_cons.1 hk with rfl | hk2
    · exact .inl (by simp)
    · have h2 := h.bs k (bkF_B hk)
      rcases h2 with h2 | h2 | h2
      · exfalso
        subst h2
        obtain ⟨x, hx, hk3⟩ := List.mem_flatMap.1 hk2
        exact (h.bk.hd x hx).2.1 hk3
      · exact .inl (by simp [h2])
      · exact .inr h2
  · rcases hnew g hm with h1 | h1
    · exact h.sep1 g hg h1
    · have := (Own.lt h.all hg).2; omega
  · rcases hnew g hm with h1 | h1
    · exact (h.sep2 r hr g hg).1 h1
    · have := (Own.lt (h.rows r hr) hg).2; omega
  · rcases hnew k hk with h1 | h1
    · exact h.bs k h1
    · exact .inr (.inr (by omega))
theorem LayR.push {W0 w w' : World} {base b mb sz : Nat} {L : List Se} {v v' : Value} {rs : List Rs} {id : Nat} (h : LayR W0 w base b mb sz L v rs) (hc : Chg v.ownBlock.toList w w') (ho : OwnR W0.heap.size w' v' (rs ++ [⟨id, none, 0, []⟩])) (hv : v'.ownBlock = v.ownBlock ∨ ∃ g, v'.ownBlock = some g ∧ w.heap.size ≤ g) :
    LayR W0 w' base b mb sz L v' (rs ++ [⟨id, none, 0, []⟩]) := by
  have hw : W0.heap.size ≤ w.heap.size := h.ch.size
  have hF : ∀ k, k ∈ v.ownBlock.toList → v.ownBlock = some k := fun k hk => by simpa using hk
  refine ⟨h.bk.cg hc (fun k hk hm => h.sep1 k (hF k hm) hk), Chg.then h.ch hc (fun k hk => .inr (Own.lt h.all (hF k hk)).1), ho, fun r hr => ?_, fun g hg hm => ?_, fun r hr g hg => ?_, h.bs⟩
  · rcases List.mem_append.1 hr with hr | hr
    · exact Own.chg (h.rows r hr) hc (fun g hg hm => (h.sep2 r hr g hg).2 (hF g hm))
    · simp at hr; subst hr; exact Own.nil _
  · rcases hv with hv | ⟨g', hv, hg'⟩
    · rw [hv] at hg; exact h.sep1 g hg hm
    · rw [hv] at hg
      have := Option.some.inj hg
      have := (h.bk.blt g hm).2
      omega
  · rcases List.mem_append.1 hr with hr | hr
    · refine ⟨(h.sep2 r hr g hg).1, fun he => ?_⟩
      rcases hv with hv | ⟨g', hv, hg'⟩
      · rw [hv] at he; exact (h.sep2 r hr g hg).2 he
      · rw [hv] at he
        have := Option.some.inj he
        have := (Own.lt (h.rows r hr) hg).2
        omega
    · simp at hr; subst hr; simp [Rs.v, Value.ownBlock] at hg
theorem LayR.row {W0 w w2 : World} {base b mb sz : Nat} {L : List Se} {g0 nn cap : Nat} {rs : List Rs} (h : LayR W0 w base b mb sz L (.slice (some ⟨g0, 0, none⟩) nn cap) rs) (hc : Chg [] w w2) {k : Nat} (hk : k < rs.length) {a' : Option Addr} {n' c' : Nat} {l' : List Sm} (ho : OwnM W0.heap.size w2 (.slice a' n' c') l') (hg : ∀ g, (Value.slice a' n' c').ownBlock = some g → w.heap.size ≤ g) :
    LayR W0 (w2.setCell ⟨g0, k * 2 + 1, none⟩ (.slice a' n' c')) base b mb sz L (.slice (some ⟨g0, 0, none⟩) nn cap) (rs.set k ⟨rs[k].id, a', c', l'⟩) := by
  have h2 := h.ov hc
  have hn : n' = l'.length := (Own.slice' (sz := 2) (cells := Sm.cs) (fun _ => rfl) ho).1
  subst hn
  have hw := hc.size
  have hob : (Value.slice (some ⟨g0, 0, none⟩) nn cap).ownBlock = some g0 := rfl
  have hgl := Own.lt h.all hob
  have hcs : Chg [g0] w2 (w2.setCell ⟨g0, k * 2 + 1, none⟩ (.slice a' l'.length c')) := Chg.setCell (Chg.refl _ _) (.inl (by simp)) _
  refine ⟨h2.bk.cg hcs (fun k hk hm => ?_), Chg.setCell h2.ch (.inr hgl.1) _, ?_, fun r hr => ?_, h2.sep1, fun r hr g hg2 => ?_, h2.bs⟩
  · simp at hm; subst hm; exact h2.sep1 _ hob hk
  · exact Own.set_ Rs.cs_len h2.all hk _ 1 _ rfl (by decide)
  · rcases List.mem_or_eq_of_mem_set hr with hr | rfl
    · exact Own.set_ne (h2.rows r hr) (fun he => (h2.sep2 r hr g0 he).2 rfl) _
    · refine Own.set_ne ho (fun he => ?_) _
      have := hg g0 he
      omega
  · rcases List.mem_or_eq_of_mem_set hr with hr | rfl
    · exact h2.sep2 r hr g hg2
    · have h3 := hg g hg2
      refine ⟨fun hm => ?_, fun he => ?_⟩
      · have := (h.bk.blt g hm).2; omega
      · rw [hob] at he; have := Option.some.inj he; omega
end
section
open Go.RowKit
attribute [local go_sem] over_drew chg_drew
attribute [local go_sem high] place_eql place_neq

theorem bk_ov {base : Nat} {w W : World} {b n sz mb : Nat} {L : List Se} (h : BkAt base w b n sz mb L) (hW : ∃ e, W = over w e) : BkAt base W b n sz mb L := by obtain ⟨e, rfl⟩ := hW; exact h.on e
theorem ov_tr {a b c : World} (h1 : ∃ e, b = over a e) (h2 : ∃ e, c = over b e) : ∃ e, c = over a e := by
  obtain ⟨e, rfl⟩ := h1
  obtain ⟨e2, rfl⟩ := h2
  exact ovA
end
section
open Go.RowKit

structure CutNx (s : Sr) (id : Nat) (p : Pl) (most : Int) (f : Fr) (t : Pl) : Prop where
  series : f.series = id
  from_ : f.from_ = p
  sum : ∃ c b, s.has t c b ∧ (f.closed = true → sumP c t.count = 0) ∧ (f.closed = false → sumP c t.count = moreR f.sum f.bits)
  rank : s.rank p < s.rank t
  beh : s.behind p = s.behind t + (f.bits.length : Nat)
  most : p.count < f.count ∧ (f.count = p.count + 1 ∨ (f.bits.length : Int) ≤ most)
  count : f.count ≤ 24
  len : f.bits.length ≤ 3504
  sl : f.sum < 2305843009213693951
theorem cut_nx {s : Sr} (hok : SrOk s) {p : Pl} {c : List Sm} {b : Bool} (hh : s.has p c b) (hp : p ≠ s.fin) (most : Int) (id : Nat) : CutNx s id p most (cutF id c b p most) (cutPl c b p most) := by
  have hl := has_lt hh hp
  have hn := cutN_le most hl
  have hcl := cutF_len hh hp most id
  have hck := hh.ok hok
  obtain ⟨c', b', hh'⟩ := next_has hok hh hp most
  refine ⟨rfl, rfl, ⟨c', b', hh', fun hc => ?_, fun hc => ?_⟩, rank_next hh hp most, behind_next hh hp most id, ⟨?_, ?_⟩, ?_, ?_, moreR_lt _ _⟩
  · have hcn : b = true ∧ cutN c p most = c.length := by
      unfold cutF at hc
      simpa using hc
    have : cutPl c b p most = ⟨p.chunk + 1, 0, 0⟩ := by unfold cutPl; rw [if_pos hcn]
    rw [this]; rfl
  · have hcn : ¬ (b = true ∧ cutN c p most = c.length) := by
      unfold cutF at hc
      intro h
      rw [h.1, h.2] at hc
      simp at hc
    have ht : cutPl c b p most = ⟨p.chunk, blen c (cutN c p most), cutN c p most⟩ := by unfold cutPl; rw [if_neg hcn]
    have hcc : c' = c := by
      have h1 := hh.1
      have h2 := hh'.1
      rw [ht] at h2
      simp only at h2
      rw [h1] at h2
      exact (congrArg Prod.fst (Option.some.inj h2)).symm
    subst hcc
    rw [ht]
    exact sum_next hh.2.2.2 hcl.2.1
  · show p.count < cutN c p most
    omega
  · rcases cutN_most c p most with h | h
    · exact .inl h
    · right
      rw [hcl.1]
      omega
  · show cutN c p most ≤ 24
    have := hck.len
    omega
  · rw [hcl.1]
    have := blen_le hck (cutN c p most)
    omega
def CutX (W : World) (id pc pb pn fk : Nat) (fcl : Bool) (fsm : Nat) (fbi : List Bool) (bl tc tb tn : Nat) (en : Ending) (w' : World) : Prop :=
  ∃ a cap, en = .returned (.tuple #[.agg #[.int .u8 0, .int .u32 0, .int .u32 (id : Nat), .int .u32 (pc : Nat), .int .u32 (pb : Nat), .int .u32 (pn : Nat), .int .u32 (fk : Nat), .bool fcl, .int .u64 (fsm : Nat), .slice a (pack fbi).length cap, .int .i64 (bl : Nat)], .agg #[.int .u32 (tc : Nat), .int .u32 (tb : Nat), .int .u32 (tn : Nat)], .int .u16 0]) ∧ (∃ e, w' = over W e) ∧ OwnB W.heap.size w' (.slice a (pack fbi).length cap) (pack fbi)
theorem has_le {s : Sr} (hok : SrOk s) {p : Pl} {c : List Sm} {b : Bool} (hh : s.has p c b) : p.bits ≤ 3504 ∧ p.count ≤ 24 ∧ p.chunk ≤ s.cl.length := by
  have h1 := blen_le (hh.ok hok) p.count
  rw [hh.2.2.2] at h1
  have h2 := hh.2.1
  have h3 := (hh.ok hok).len
  refine ⟨h1, by omega, ?_⟩
  rcases hh.at_eq with ⟨h4, _⟩ | ⟨h4, _⟩ <;> omega
theorem rank_fin {s : Sr} {p : Pl} {c : List Sm} {b : Bool} (hok : SrOk s) (hh : s.has p c b) (hp : p ≠ s.fin) : s.rank p < s.all.length := by
  have h1 := rank_next hh hp 0
  obtain ⟨c', b', hh'⟩ := next_has hok hh hp 0
  have := rank_le hh'
  omega
structure CutA (s : Sr) (p : Pl) (most : Int) (fk g2 bl : Nat) (t : Pl) : Prop where
  has : ∃ c b, s.has t c b
  beh : s.behind p = s.behind t + (bl : Nat)
  fin : p = s.fin → t = p ∧ fk = 0
  on : p ≠ s.fin → g2 = p.count ∧ p.count < fk ∧ (fk = p.count + 1 ∨ (bl : Int) ≤ most)
  fk : fk ≤ 24
  bl : bl ≤ 3504
end
end Go.Proofs.YtnihngljmmbenaaGreatDoor
