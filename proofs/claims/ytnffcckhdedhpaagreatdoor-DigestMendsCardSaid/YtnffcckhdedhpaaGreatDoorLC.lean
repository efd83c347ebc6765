import Derived.Test.YtnffcckhdedhpaaGreatDoorKB
import Derived.Test.YtnffcckhdedhpaaGreatDoorLLaid
namespace Go.Proofs.YtnffcckhdedhpaaGreatDoor
set_option linter.unusedVariables false
set_option linter.unusedSimpArgs false
set_option maxRecDepth 100000
set_option maxHeartbeats 4000000
section
open Go.RowKit
attribute [local go_sem] odr cdr
def chF (id k : Nat) (c : List Sm) (cl : Bool) : Fr := ⟨id, ⟨k, 0, 0⟩, c.length, cl, 0, bitsC En.zero c⟩
theorem blen_tot (c : List Sm) (n : Nat) : blen c n ≤ (bitsC En.zero c).length := by
 have h := congrArg List.length (bits_take c n); rw [List.length_take] at h; have : (bitsC En.zero (c.take n)).length = blen c n := rfl; omega
theorem cutTo_all (c : List Sm) : ∀ f n, n ≤ c.length → c.length ≤ n + f → cutTo c 0 ((bitsC En.zero c).length : Nat) f n = c.length
  | 0, n, h1, h2 => by unfold cutTo; omega
  | f + 1, n, h1, h2 => by
   unfold cutTo; split
   · rename_i h; exact cutTo_all c f (n + 1) h.1 (by omega)
   · rename_i h
     have := blen_tot c (n + 1); by_cases hn : n < c.length
     · exact absurd ⟨hn, by omega⟩ h
     · omega
theorem cutF_all (id k : Nat) {c : List Sm} (cl : Bool) (hc : c ≠ []) : cutF id c cl ⟨k, 0, 0⟩ ((bitsC En.zero c).length : Nat) = chF id k c cl := by
 have hl := List.length_pos_iff.2 hc; have h1 : cutN c ⟨k, 0, 0⟩ ((bitsC En.zero c).length : Nat) = c.length := cutTo_all c _ _ (by simp only []; omega) (by simp only []; omega); unfold cutF chF; rw [h1]; have h2 : blen c c.length = (bitsC En.zero c).length := by unfold blen; rw [List.take_length]
 simp [h2, sum_zero]
def Sr.frs (s : Sr) (id : Nat) (n : Nat) : List Fr := (List.range n).flatMap fun k => match s.at_ k with
 | Option.some (c, cl) => if c = [] then [] else [chF id k c cl]
 | none => []
theorem frs_succ (s : Sr) (id n : Nat) {c : List Sm} {cl : Bool} (h : s.at_ n = Option.some (c, cl)) : s.frs id (n + 1) = s.frs id n ++ (if c = [] then [] else [chF id n c cl]) := by
 unfold Sr.frs; rw [List.range_succ, List.flatMap_append]; simp [h]
theorem frs_len (s : Sr) (id : Nat) : ∀ n, (s.frs id n).length ≤ n
  | 0 => by simp [Sr.frs]
  | n + 1 => by
   have ih := frs_len s id n; unfold Sr.frs at *; rw [List.range_succ, List.flatMap_append, List.length_append]; have : ∀ l : List Fr, l.length ≤ 1 → ((List.range n).flatMap fun k => match s.at_ k with | Option.some (c, cl) => if c = [] then [] else [chF id k c cl] | none => []).length + l.length ≤ n + 1 := fun l hl => by omega
   refine this _ ?_; simp only [List.flatMap_cons, List.flatMap_nil, List.append_nil]; split
   · split <;> simp
   · simp
structure Fx where
 f : Fr
 a : Option Addr
 cap : Nat
def Fx.cs (x : Fx) : List Value := x.f.cs x.a x.cap
abbrev Fx.bv (x : Fx) : Value := .slice x.a (pack x.f.bits).length x.cap
theorem Fx.cs_len (x : Fx) : x.cs.length = 11 := rfl
theorem Fx.cs_one (x : Fx) : ∀ u ∈ x.cs, u.oneCell' = true := by intro u hu; simp [Fx.cs, Fr.cs] at hu; rcases hu with rfl | rfl | rfl | rfl | rfl | rfl | rfl | rfl | rfl | rfl | rfl <;> rfl
theorem frame_elem : ElemOf Tryz.prog 41 51 11 72 := elemOf (z := .agg #[.int .u8 0, .int .u32 0, .int .u32 0, .int .u32 0, .int .u32 0, .int .u32 0, .int .u32 0, .bool false, .int .u64 0, .slice none 0 0, .int .i64 0]) (by kernel_rfl) (by kernel_rfl) rfl (by decide)
abbrev OwnF (base : Nat) (w : World) (v : Value) (l : List Fx) : Prop := Own base 51 11 Fx.cs w v l
structure FrsAt (base : Nat) (w : World) (v : Value) (l : List Fx) : Prop where
 row : OwnF base w v l
 bits : ∀ x ∈ l, OwnB base w x.bv (pack x.f.bits)
 apart : ∀ x ∈ l, ∀ g, x.bv.ownBlock = some g → v.ownBlock ≠ some g
theorem FrsAt.ov {base : Nat} {w W : World} {v : Value} {l : List Fx} (h : FrsAt base w v l) (hW : ∃ e, W = over w e) : FrsAt base W v l := by
 obtain ⟨e, rfl⟩ := hW; exact ⟨h.row.over e, fun x hx => (h.bits x hx).over e, h.apart⟩
theorem FrsAt.mono {base base' : Nat} {w : World} {v : Value} {l : List Fx} (h : FrsAt base w v l) (hb : base' ≤ base) : FrsAt base' w v l := ⟨h.row.mono hb, fun x hx => (h.bits x hx).mono hb, h.apart⟩
theorem FrsAt.nil (w : World) (base : Nat) : FrsAt base w (.slice none 0 0) [] := ⟨Own.nil w, by simp, by simp⟩
theorem FrsAt.push {base b : Nat} {w w' : World} {v v' : Value} {l : List Fx} {x : Fx} (h : FrsAt base w v l) (hx : OwnB b w x.bv (pack x.f.bits)) (hb : base ≤ b) (hv : ∀ g, v.ownBlock = some g → g < b) (hc : Chg v.ownBlock.toList w w')
    (ho : OwnF base w' v' (l ++ [x])) (hv' : v'.ownBlock = v.ownBlock ∨ ∃ g, v'.ownBlock = some g ∧ w.heap.size ≤ g) : FrsAt base w' v' (l ++ [x]) := by
  have hxa : ∀ g, x.bv.ownBlock = some g → v.ownBlock ≠ some g := fun g hg he => by have := (Own.lt hx hg).1; have := hv g he; omega
  have hne : ∀ y ∈ l ++ [x], (∀ g, y.bv.ownBlock = some g → v.ownBlock ≠ some g) ∧ OwnB base w y.bv (pack y.f.bits) := by
   intro y hy; rcases List.mem_append.1 hy with hy | hy
   · exact ⟨h.apart y hy, h.bits y hy⟩
   · simp at hy; subst hy; exact ⟨hxa, hx.mono hb⟩
  refine ⟨ho, fun y hy => Own.chg (hne y hy).2 hc (fun g hg hm => (hne y hy).1 g hg (by simpa using hm)), fun y hy g hg => ?_⟩; rcases hv' with hv' | ⟨g', hg', hl'⟩
  · rw [hv']; exact (hne y hy).1 g hg
  · rw [hg']; intro he; have := (Own.lt (hne y hy).2 hg).2; simp at he; omega
def CutW (w : World) (id k : Nat) (n : Nat) (cl : Bool) (l : List Bool) (BL : Nat) (en : Ending) (w' : World) : Prop :=
 ∃ a cap t0 t1 t2, en = .returned (.tuple #[.agg #[.int .u8 0, .int .u32 0, .int .u32 (id : Nat), .int .u32 (k : Nat), .int .u32 0, .int .u32 0, .int .u32 (n : Nat), .bool cl, .int .u64 0, .slice a (pack l).length cap, .int .i64 (BL : Nat)], .agg #[.int .u32 (t0 : Nat), .int .u32 (t1 : Nat), .int .u32 (t2 : Nat)], .int .u16 0]) ∧ (∃ e, w' = over w e) ∧ OwnB w.heap.size w' (.slice a (pack l).length cap) (pack l)
theorem cut_whole {base : Nat} {w : World} {b n sz mb : Nat} {L : List Se} (h : BkAt base w b n sz mb L) {id : Nat} {s : Sr} (hs : getS (bkOf L) id = s) {k : Nat} {c : List Sm} {cl : Bool} (ha : s.at_ k = Option.some (c, cl)) (hc : c ≠ []) (hcl : s.cl.length ≤ 900) (hok : SrOk s) (W : World) (hW : ∃ e, W = over w e) :
    Calls Tryz.prog 58 #[.pointer (some ⟨b, 0, none⟩), .int .u32 (id : Nat), .agg #[.int .u32 (k : Nat), .int .u32 0, .int .u32 0], .int .i64 ((bitsC En.zero c).length : Nat)] W (CutW W id k c.length cl (bitsC En.zero c) (bitsC En.zero c).length) := by
  subst hs; have hh : (getS (bkOf L) id).has ⟨k, 0, 0⟩ c cl := ⟨ha, Nat.zero_le _, fun _ => List.length_pos_iff.2 hc, blen_zero _⟩; have hp : (⟨k, 0, 0⟩ : Pl) ≠ (getS (bkOf L) id).fin := by
   intro he; rcases hh.at_eq with ⟨h1, _, _⟩ | ⟨_, h2, _⟩
   · have := congrArg Pl.chunk he; simp only [Sr.fin] at this h1; omega
   · have := congrArg Pl.count he; simp only [Sr.fin, h2] at this; exact hc (List.eq_nil_of_length_eq_zero this.symm)
  have hb := (hh.ok hok); have hbl : (bitsC En.zero c).length ≤ 3504 := by have := blen_le hb c.length; unfold blen at this; rwa [List.take_length] at this
  refine (cut_on (bk_ov h hW) id hh hcl hp ((bitsC En.zero c).length : Nat) (by omega)).mono ?_; rintro en w' ⟨a, cap, rfl, ho, hb⟩; rw [cutF_all id k cl hc] at hb ⊢; obtain ⟨t0, t1, t2⟩ := cutPl c cl ⟨k, 0, 0⟩ ((bitsC En.zero c).length : Nat); exact ⟨a, cap, t0, t1, t2, rfl, ho, hb⟩
theorem ends_len (c : List Sm) : (endsK c c.length).length = c.length := by unfold endsK; simp
def ChsP (w : World) (fs : List Fr) (en : Ending) (w' : World) : Prop := (∃ e, w' = over w e) ∧ ∃ v l, en = .returned v ∧ l.map Fx.f = fs ∧ FrsAt w.heap.size w' v l
theorem at_part {x : Se} {base : Nat} {w : World} (h : SeAt base w x) {k : Nat} (hk : k < x.ps.length) : ∃ c cl, x.s.at_ k = Option.some (c, cl) ∧ PrtIs x.ps[k] c cl ∧ PrtOk base w x.ps[k] := by
 have hl := h.is_.len; rcases Nat.lt_or_ge k x.s.cl.length with h1 | h1
 · exact ⟨x.s.cl[k], true, by simp [Sr.at_, h1], h.is_.cl k h1, h.pts _ (List.getElem_mem hk)⟩
 · obtain rfl : k = x.s.cl.length := by omega
   exact ⟨x.s.op, false, by simp [Sr.at_], h.is_.op, h.pts _ (List.getElem_mem hk)⟩
theorem chunks_any {base : Nat} {w : World} {b n sz mb : Nat} {L : List Se} (h : BkAt base w b n sz mb L) (id : Nat) {s : Sr} (hs0 : getS (bkOf L) id = s) (hcl : s.cl.length ≤ 900) :
    Calls Tryz.prog 29 #[.pointer (some ⟨b, 0, none⟩), .int .u32 (id : Nat)] w (ChsP w (s.frs id (s.cl.length + 1))) := by
  have HA := hid (fun W (hW : ∃ e, W = over w e) => bkAt_any (w := W) (by obtain ⟨e, rfl⟩ := hW; exact h.on e) id); rw [hs0] at HA; have hok : SrOk s := by rw [← hs0]; exact getS_ok h id
  have HC := hid (fun k c cl (ha : s.at_ k = Option.some (c, cl)) (hc : c ≠ []) W (hW : ∃ e, W = over w e) => cut_whole h hs0 ha hc hcl hok W hW); clear h hs0
  go_enter Tryz.func29, Tryz.ntmps29
  go_wp2_with (
    (go_at_call 46)
    (with_reducible refine (HA.out _ ovA).mono ?_)
    rintro _ w1 ⟨x, rfl, ⟨e1, hw1⟩, hs, hxs⟩; have O1 : Hid (∃ e, w1 = over w e) := hid (by rw [hw1]; exact ovA); obtain ⟨g, cap, m, ho⟩ := hs.open_; have HS := hid hs; have HO := hid ho; have HX := hid hxs; have r0 := hs.blk.cell 0 rfl; rw [ho.hv] at r0; have l0 := hs.blk.lt; have hm : s.cl.length = m := by rw [← hxs]; exact ho.hc
    clear hw1 hs ho hxs)
  rw [hm] at hcl; have hg := HO.out.lt; have hpl : x.ps.length = m + 1 := HO.out.hl
  go_loopw [5, 6, 7, 8, 9, 10, 18] (fun v _ _ _ _ _ i wr => ∃ (k : Nat) (l : List Fx), k ≤ m + 1 ∧ i = .int .i64 (k : Nat) ∧ l.map Fx.f = s.frs id k ∧ FrsAt w1.heap.size wr v l ∧ Ov w1 wr) (fun _ _ _ _ _ _ i _ => m + 1 - (intOf i).toNat)
  case atStart => exact ⟨0, [], Nat.zero_le _, rfl, rfl, FrsAt.nil _ _, ovA⟩
  case round =>
   obtain ⟨k, l, hk, rfl, hmap, hfr, ⟨e0, rfl⟩⟩ := hrel; obtain ⟨av, cv, rfl, _⟩ := Own.slice Fx.cs_len hfr.row; have HF := hid hfr; clear hfr; by_cases hlt : k < m + 1
   · have hpk : k < x.ps.length := by omega
     obtain ⟨c, cl, hc1, hc2, hc3⟩ := at_part HS.out hpk; rw [HX.out] at hc1; have hpo := (HO.out.part hpk).ov hg (W := over w1 e0) ⟨e0, rfl⟩; obtain ⟨pt, hptx⟩ : ∃ pt, x.ps[k]'hpk = pt := ⟨_, rfl⟩; rw [hptx] at hpo hc2 hc3; have hul : pt.us.length = c.length := by rw [hc2.us]; exact ends_len c
     have hss := frs_succ s id k hc1; have hlen : l.length ≤ k := by have := frs_len s id k; rw [← hmap] at this; simpa using this
     have q0 := hpo.r0; have q1 := hpo.r1; have q2 := hpo.r2; have q3 := hpo.r3; have q4 := hpo.r4; have q5 := hpo.r5; have q6 := hpo.r6; have q7 := hpo.r7; have q8 := hpo.r8; have q9 := hpo.r9; have q10 := hpo.r10; rw [hc2.L] at q0 q1; rw [hul] at q2; by_cases hc0 : c = []
     · have hcl0 : c.length = 0 := by rw [hc0]; rfl
       rw [hcl0] at q2; rw [if_pos hc0, List.append_nil] at hss; have HSS := hid hss; have HM := hid hmap; clear hc2 hc3 hpo hptx hss hmap hc1 hc0; go_wp2; go_roundw
       case rel => exact ⟨k + 1, l, by omega, by go_num, by rw [HSS.out]; exact HM.out, HF.out.ov ovA, ovA⟩
       case measure => (simp [intOf]; try omega)
     · have hcpos := List.length_pos_iff.2 hc0; rw [if_neg hc0] at hss; have HCut := hid (HC.out k c cl hc1 hc0); obtain ⟨LL, hLL⟩ : ∃ LL, bitsC En.zero c = LL := ⟨_, rfl⟩; obtain ⟨cn, hcn⟩ : ∃ cn, c.length = cn := ⟨_, rfl⟩; have hss2 : s.frs id (k + 1) = s.frs id k ++ [⟨id, ⟨k, 0, 0⟩, cn, cl, 0, LL⟩] := by rw [hss, ← hLL, ← hcn]; rfl
       rw [hLL, hcn] at HCut; rw [hLL] at q0 q1; rw [hcn] at q2 hcpos; have HSS := hid hss2; have HM := hid hmap; clear hc2 hc3 hpo hptx hss hss2 hmap hc1 hc0 hLL hcn hul
       go_wp2_with (first
         | (go_at_call 58
            (with_reducible refine (HCut.out _ (ovB O1.out)).mono ?_)
            rintro _ w2 ⟨a2, c2, t0, t1, t2, rfl, ⟨e2, hw2⟩, ho2⟩; have C2 : Hid (∃ e, w2 = over (over w1 e0) e) := hid (by rw [hw2]; exact ovA); have hsz2 : (over w1 e0).heap.size < w2.heap.size := by rw [hw2]; simp; omega
            have HB2 := hid ho2; clear hw2 ho2)
         | (at_builtin
            refine gen_w ?_; intro W3 hW3; have C3 : Hid (∃ e, W3 = over w2 e) := hid (by rw [hW3]; exact ovA); have C13 : Hid (∃ e, W3 = over (over w1 e0) e) := hid (by rw [hW3]; exact (ovB C2.out)); have S3 : Hid (Sl 11 Fx.cs W3 (some ⟨w2.heap.size + 1 + 1, 0, none⟩) 1 [(⟨⟨id, ⟨k, 0, 0⟩, cn, cl, 0, LL⟩, a2, c2⟩ : Fx)]) := hid (by rw [hW3]; exact (by (repeat with_reducible refine Sl.drew ?_); exact Sl.one_new (y := (⟨⟨id, ⟨k, 0, 0⟩, cn, cl, 0, LL⟩, a2, c2⟩ : Fx)) (by simp; try omega))); have HF3 := hid (HF.out.ov C13.out); have hav : ∀ g, (Value.slice av l.length cv).ownBlock = some g → g < (over w1 e0).heap.size := fun g hg => (Own.lt HF.out.row hg).2; have hbw3 : w1.heap.size ≤ W3.heap.size := by obtain ⟨z, hz⟩ := C13.out; rw [hz]; simp; omega
            have HB3 := hid (Own.chg (F := []) (Own.mono (base' := (over w1 e0).heap.size) HB2.out (by simp)) (Chg.of_ov C3.out []) (by simp)); refine wpList_append' frame_elem Fx.cs_len Fx.cs_one rfl (.tmp 40) (.tmp 42) rfl (base := w1.heap.size) (v := .slice av l.length cv) (ys := l) (xs := [(⟨⟨id, ⟨k, 0, 0⟩, cn, cl, 0, LL⟩, a2, c2⟩ : Fx)]) HF3.out.row rfl rfl hbw3 S3.out (by simp only [List.length_singleton]; unfold maxLen; omega) (by simp only [List.length_singleton]; omega) ?_; intro v5 m5 ho5 hv5; refine gen_w ?_; intro W5 hW5; have hc5 : Chg (Value.slice av l.length cv).ownBlock.toList W3 W5 := by rw [hW5]; exact chg_chg _ _ _
            rw [← hW5] at ho5; have HF5 := hid (FrsAt.push (x := (⟨⟨id, ⟨k, 0, 0⟩, cn, cl, 0, LL⟩, a2, c2⟩ : Fx)) HF3.out HB3.out (by simp) hav hc5 ho5 hv5); have C15 : Hid (∃ e, W5 = over w1 e) := hid (Chg.ov (ov_tr ⟨e0, rfl⟩ C13.out) hc5 (fun g hg => (Own.lt HF3.out.row (by simpa using hg)).1)); clear hW3 hW5 hc5 ho5 hv5 hav))
       go_roundw
       case rel =>
        refine ⟨k + 1, l ++ [(⟨⟨id, ⟨k, 0, 0⟩, cn, cl, 0, LL⟩, a2, c2⟩ : Fx)], by omega, by go_num, ?_, ?_, ?_⟩
        · rw [HSS.out, List.map_append, HM.out]; rfl
        · exact HF5.out
        · exact C15.out
       case measure => (simp [intOf]; try omega)
   · obtain rfl : k = m + 1 := by omega
     have HM := hid hmap; clear hmap; go_wp2; go_ret
     refine ⟨(ovB O1.out), _, l, rfl, by rw [hm]; exact HM.out, FrsAt.mono HF.out ?_⟩; obtain ⟨z, hz⟩ := O1.out; rw [hz]; simp
end
section
open Go.RowKit
theorem frs_cl {s : Sr} (hok : SrOk s) (id : Nat) : ∀ n, n ≤ s.cl.length → s.frs id n = (List.range n).map (fun k => chF id k (s.cl.getD k []) true)
  | 0, _ => rfl
  | n + 1, h => by
   have hn : n < s.cl.length := h; have ha : s.at_ n = Option.some (s.cl[n], true) := by simp [Sr.at_, hn]
   rw [frs_succ s id n ha, frs_cl hok id n (by omega), if_neg (hok.cl _ (List.getElem_mem hn)).1, List.range_succ, List.map_append]; simp [hn]
theorem frs_all {s : Sr} (hok : SrOk s) (id : Nat) : s.frs id (s.cl.length + 1) = (List.range s.cl.length).map (fun k => chF id k (s.cl.getD k []) true) ++ (if s.op = [] then [] else [chF id s.cl.length s.op false]) := by
 have ha : s.at_ s.cl.length = Option.some (s.op, false) := by simp [Sr.at_]
 rw [frs_succ s id _ ha, frs_cl hok id _ (Nat.le_refl _)]
theorem range_getD (l : List (List Sm)) : (List.range l.length).map (fun k => (l.getD k []).length) = l.map List.length := by
 apply List.ext_getElem
 · simp
 · intro i h1 h2; simp at h1 h2 ⊢; simp [h2]
theorem frs_sum {s : Sr} (hok : SrOk s) (id : Nat) : ((s.frs id (s.cl.length + 1)).map Fr.count).sum = s.all.length := by
 rw [frs_all hok, List.map_append, List.sum_append, List.map_map]; have h1 : (List.range s.cl.length).map (Fr.count ∘ fun k => chF id k (s.cl.getD k []) true) = s.cl.map List.length := range_getD s.cl; rw [h1]; unfold Sr.all; rw [List.length_append, List.length_flatten]; split
 · rename_i h; simp [h]
 · simp [chF]
theorem SlF.at_ {w : World} {a : Option Addr} {cap : Nat} {xs : List Fx} (h : Sl 11 Fx.cs w a cap xs) {k : Nat} (hk : k < xs.length) : ∃ b o, a = Option.some ⟨b, o, none⟩ ∧ b < w.heap.size ∧ ∀ j u, xs[k].cs[j]? = Option.some u → w.cell? ⟨b, o + k * 11 + j, none⟩ = Option.some u := by
 obtain ⟨b, o, ha, hb, hc⟩ := h.rec_ k _ (List.getElem?_eq_getElem hk); exact ⟨b, o, ha, hb, hc⟩
end
end Go.Proofs.YtnffcckhdedhpaaGreatDoor
