/- Walks: XorBack. -/
import Derived.Test.YthljlajdkdgieaaDoorXorL
import Derived.Test.YthljlajdkdgieaaDoorXorS
import Derived.Test.YthljlajdkdgieaaDoorMix3
namespace Go.Proofs.YthljlajdkdgieaaDoor
set_option linter.unusedVariables false
set_option linter.unusedSimpArgs false
open Go.RowKit
attribute [local go_sem] over_drew chg_drew

def Vl.cs (s : Vl) : List Value := [.bool s.has, .int .u64 (s.prev : Nat), .int .u8 (s.lead : Nat), .int .u8 (s.width : Nat)]
theorem Vl.cs_len (s : Vl) : s.cs.length = 4 := rfl
theorem Vl.cs_one (s : Vl) : ∀ u ∈ s.cs, u.oneCell' = true := by intro u hu; simp [Vl.cs] at hu; rcases hu with rfl | rfl | rfl | rfl <;> rfl
theorem val_elem : ElemOf Tryd.prog 60 24 4 24 := elemOf (z := .agg #[.bool false, .int .u64 0, .int .u8 0, .int .u8 0]) (by kernel_rfl) (by kernel_rfl) rfl (by decide)
abbrev OwnV (base : Nat) (w : World) (v : Value) (l : List Vl) : Prop := Own base 24 4 Vl.cs w v l
def ucs (x : Nat) : List Value := [.int .u64 (x : Nat)]
abbrev SlU (w : World) (a : Option Addr) (cap : Nat) (xs : List Nat) : Prop := Sl 1 ucs w a cap xs
theorem SlU.at_ {w : World} {a : Option Addr} {cap : Nat} {xs : List Nat} (h : SlU w a cap xs) {k : Nat} (hk : k < xs.length) :
    ∃ b off, a = some ⟨b, off, none⟩ ∧ b < w.heap.size ∧ w.cell? ⟨b, off + k, none⟩ = some (.int .u64 (xs[k] : Nat)) := by
  obtain ⟨b, off, rfl, hb, hcell⟩ := h.rec_ k xs[k] (List.getElem?_eq_getElem hk)
  have := hcell 0 _ rfl
  rw [Nat.mul_one] at this
  exact ⟨b, off, rfl, hb, this⟩

theorem gen_w {Q : Act → World → Prop} {a : Act} {w : World} (h : ∀ W, W = w → Q a W) : Q a w := h w rfl
/-! What stands behind a round's stores, its call and its append. -/
section
variable {W e8 : World} {p3 p4 : Nat} {u0 u1 v0 v1 v2 v3 : Value} {lit : Obj} {F : List Nat} {m : Mut}
theorem bk_p3 {x0 x1 : Value} {t : TypeId} (h : Blk W p3 [x0, x1] t) (n34 : ¬ p3 = p4) (nl3 : p3 ∉ F) : Blk (Go.Proofs.YthljlajdkdgieaaDoor.chg F ((over ((((((W.setCell ⟨p3, 0, none⟩ u0).setCell ⟨p3, 1, none⟩ u1).setCell ⟨p4, 0, none⟩ v0).setCell ⟨p4, 1, none⟩ v1).setCell ⟨p4, 2, none⟩ v2).setCell ⟨p4, 3, none⟩ v3) e8).alloc lit) m) p3 [u0, u1] t := by
  refine Blk.chg ?_ (chg_chg _ _ _) nl3
  refine Blk.alloc (Blk.on (Blk.set_ne (Blk.set_ne (Blk.set_ne (Blk.set_ne ?_ n34 _) n34 _) n34 _) n34 _) _) _
  exact (h.set 0 u0).set 1 u1
theorem bk_p4 {x0 x1 x2 x3 : Value} {t : TypeId} (h : Blk W p4 [x0, x1, x2, x3] t) (n43 : ¬ p4 = p3) (nl4 : p4 ∉ F) : Blk (Go.Proofs.YthljlajdkdgieaaDoor.chg F ((over ((((((W.setCell ⟨p3, 0, none⟩ u0).setCell ⟨p3, 1, none⟩ u1).setCell ⟨p4, 0, none⟩ v0).setCell ⟨p4, 1, none⟩ v1).setCell ⟨p4, 2, none⟩ v2).setCell ⟨p4, 3, none⟩ v3) e8).alloc lit) m) p4 [v0, v1, v2, v3] t := by
  refine Blk.chg ?_ (chg_chg _ _ _) nl4
  refine Blk.alloc (Blk.on ?_ _) _
  exact ((((Blk.set_ne (Blk.set_ne h n43 u0) n43 u1).set 0 v0).set 1 v1).set 2 v2).set 3 v3
theorem bk_own {α : Type} {base : Nat} {e : TypeId} {sz : Nat} {cells : α → List Value} {v : Value} {xs : List α} (h : Own base e sz cells W v xs) (h3 : v.ownBlock ≠ some p3) (h4 : v.ownBlock ≠ some p4) (hF : ∀ g, v.ownBlock = some g → g ∉ F) : Own base e sz cells (Go.Proofs.YthljlajdkdgieaaDoor.chg F ((over ((((((W.setCell ⟨p3, 0, none⟩ u0).setCell ⟨p3, 1, none⟩ u1).setCell ⟨p4, 0, none⟩ v0).setCell ⟨p4, 1, none⟩ v1).setCell ⟨p4, 2, none⟩ v2).setCell ⟨p4, 3, none⟩ v3) e8).alloc lit) m) v xs := by
  refine Own.chg ?_ (chg_chg _ _ _) hF
  refine Own.alloc (Own.over (Own.set_ne (Own.set_ne (Own.set_ne (Own.set_ne (Own.set_ne (Own.set_ne h h3 _) h3 _) h4 _) h4 _) h4 _) h4 _) _) _
end

/-- A box of bits, the call's own. -/
structure BxB (base : Nat) (wr : World) (p : Nat) (L : List Bool) (a : Option Addr) (c : Nat) : Prop where
  blk : Blk wr p [.slice a (pack L).length c, .int .i64 (L.length : Nat)] 29
  own : OwnB base wr (.slice a (pack L).length c) (pack L)

/-- The state of the first loop. -/
structure BkRel (w : World) (p3 p4 : Nat) (vs : List Nat) (k : Nat) (o : Value) (wr : World) : Prop where
  ov : ∃ e, wr = over w e
  st : ∃ a c, BxB (p4 + 1) wr p3 (wrote Vl.zero (vs.take k)) a c ∧ ∀ g, (Value.slice a (pack (wrote Vl.zero (vs.take k))).length c).ownBlock = some g → o.ownBlock ≠ some g
  b4 : Blk wr p4 (knowAt Vl.zero (vs.take k)).cs 24
  al : OwnV (p4 + 1) wr o (knows Vl.zero (vs.take k))

set_option maxRecDepth 100000 in
set_option maxHeartbeats 4000000 in
theorem xorBack_any (vs : List Nat) (hvs : ∀ v ∈ vs, v < 18446744073709551616) (a : Option Addr) (cap : Nat) (w : World) (hT : TabW w) (hs : SlU w a cap vs) :
    Calls Tryd.prog 10 #[.slice a vs.length cap] w (Ret w (.bool true)) := by
  have HK := hid (fun W hW => known03_any W hW)
  by_cases hlen : (40 : Int) < (vs.length : Int)
  · go_enter Tryd.func10, Tryd.ntmps10
    go_wp2_with (go_at_call 18; (with_reducible refine (HK.out _ (by repeat (first | with_reducible exact hT | with_reducible refine TabW.over ?_ _ | with_reducible refine TabW.alloc ?_ _ | with_reducible refine TabW.drew ?_ | ((with_reducible refine TabW.setCell ?_ ?_ _); rotate_left; (first | (focus (simp; done)) | (focus (simp; omega)))) | ((with_reducible refine TabW.chg ?_ _ ?_); rotate_left; (first | assumption | (focus (simp; done)) | (focus (simp; omega)))) | exact hT))).mono ?_); rintro _ _ ⟨⟨e1, rfl⟩, rfl⟩)
    go_ret
    exact ⟨(by (try unfold Ov); repeat (first | with_reducible exact ex_over | with_reducible exact over_self _ | with_reducible refine ex_undrew ?_ | with_reducible refine ex_into ?_ _ | with_reducible refine ex_alloc ?_ _ | with_reducible refine ex_drew ?_ | ((with_reducible refine ex_setCell ?_ ?_ _); rotate_left; (first | omega | (focus (simp; done)) | (focus (simp; omega)))) | ((with_reducible refine ex_chg ?_ _ ?_); rotate_left; (first | assumption | (exact Hid.out (by assumption)))) | exact ex_over)), rfl⟩
  have hl40 : vs.length ≤ 40 := by omega
  go_enter Tryd.func10, Tryd.ntmps10
  go_wp2_with (go_at_call 18; (with_reducible refine (HK.out _ (by repeat (first | with_reducible exact hT | with_reducible refine TabW.over ?_ _ | with_reducible refine TabW.alloc ?_ _ | with_reducible refine TabW.drew ?_ | ((with_reducible refine TabW.setCell ?_ ?_ _); rotate_left; (first | (focus (simp; done)) | (focus (simp; omega)))) | ((with_reducible refine TabW.chg ?_ _ ?_); rotate_left; (first | assumption | (focus (simp; done)) | (focus (simp; omega)))) | exact hT))).mono ?_); rintro _ _ ⟨⟨e1, rfl⟩, rfl⟩)
  go_loopw [5, 6] (fun o i wr => ∃ (k : Nat) (o' : Value), k ≤ vs.length ∧ i = .int .i64 (k : Nat) ∧ o' = o ∧ BkRel w (w.heap.size + e1.heap.size) (w.heap.size + e1.heap.size + 1) vs k o' wr) (fun _ i _ => vs.length - (intOf i).toNat)
  case atStart =>
    have st : BkRel w (w.heap.size + e1.heap.size) (w.heap.size + e1.heap.size + 1) [] 0 (.slice none 0 0) (((over w e1).alloc (.cells #[.slice none 0 0, .int .i64 0] 29)).alloc (.cells #[.bool false, .int .u64  0, .int .u8  0, .int .u8  0] 24)) := by
      refine ⟨(by (try unfold Ov); repeat (first | with_reducible exact ex_over | with_reducible exact over_self _ | with_reducible refine ex_undrew ?_ | with_reducible refine ex_into ?_ _ | with_reducible refine ex_alloc ?_ _ | with_reducible refine ex_drew ?_ | ((with_reducible refine ex_setCell ?_ ?_ _); rotate_left; (first | omega | (focus (simp; done)) | (focus (simp; omega)))) | ((with_reducible refine ex_chg ?_ _ ?_); rotate_left; (first | assumption | (exact Hid.out (by assumption)))) | exact ex_over)), ⟨none, 0, ⟨?_, ?_⟩, fun g h => by cases h⟩, ?_, Own.nil _⟩
      · show Blk _ _ [.slice none (pack []).length 0, .int .i64 0] _
        rw [pack_nil]; exact (by repeat (first | exact Blk.new' (by simp; done) | exact Blk.new' rfl | with_reducible assumption | with_reducible refine Blk.alloc ?_ _ | with_reducible refine Blk.drew ?_ | with_reducible refine Blk.on ?_ _ | ((with_reducible refine Blk.chg ?_ (chg_chg _ _ _) ?_); rotate_left; (first | assumption | (focus (simp; done)) | (focus (simp; omega))))))
      · show OwnB _ _ (.slice none (pack []).length 0) (pack [])
        rw [pack_nil]; exact Own.nil _
      · show Blk _ _ [.bool false, .int .u64 0, .int .u8 0, .int .u8 0] _
        exact (by repeat (first | exact Blk.new' (by simp; done) | exact Blk.new' rfl | with_reducible assumption | with_reducible refine Blk.alloc ?_ _ | with_reducible refine Blk.drew ?_ | with_reducible refine Blk.on ?_ _ | ((with_reducible refine Blk.chg ?_ (chg_chg _ _ _) ?_); rotate_left; (first | assumption | (focus (simp; done)) | (focus (simp; omega))))))
    exact ⟨0, .slice none 0 0, Nat.zero_le _, rfl, rfl, ⟨st.ov, st.st, st.b4, st.al⟩⟩
  case round =>
    obtain ⟨k, o, hk, rfl, rfl, ⟨e0, he0⟩, ⟨a3, c3, ⟨hB3, hO3⟩, hdj⟩, hB4, hal⟩ := hrel
    have hwp3 : w.heap.size ≤ w.heap.size + e1.heap.size := by omega
    have hp34 : w.heap.size + e1.heap.size < w.heap.size + e1.heap.size + 1 := by omega
    generalize w.heap.size + e1.heap.size + 1 = p4 at *
    generalize w.heap.size + e1.heap.size = p3 at *
    have H0 : Hid (∃ e, wr = over w e) := hid ⟨e0, he0⟩
    have HB3 := hid hB3
    have HB4 := hid hB4
    have HO3 := hid hO3
    have HAL := hid hal
    have HDJ := hid hdj
    have hsb : SlB wr a3 c3 (pack (wrote Vl.zero (vs.take k))) := (Own.slice' bcs_len hO3).2
    clear he0 hB3 hB4 hO3 hal hdj
    have hvk : ∀ v ∈ vs.take k, v < 18446744073709551616 := fun v hv => hvs v (List.mem_of_mem_take hv)
    have ht := knowAt_ok (s := Vl.zero) rfl zero_wf (vs.take k) hvk
    have hLl := wrote_len (s := Vl.zero) rfl zero_wf (vs.take k) hvk
    rw [List.length_take] at hLl
    have hkl := knows_length Vl.zero (vs.take k)
    rw [List.length_take] at hkl
    have r30 := HB3.out.cell 0 rfl
    have r31 := HB3.out.cell 1 rfl
    have g30 := HB3.out.free 0
    have g31 := HB3.out.free 1
    have l3 := HB3.out.lt
    by_cases hlt : k < vs.length
    · obtain ⟨b6, o6, rfl, hb6, k0⟩ := SlU.at_ hs hlt
      have hv := hvs vs[k] (List.getElem_mem hlt)
      have hwr := knowAt_snoc Vl.zero (vs.take k) vs[k]
      have hwr2 := wrote_snoc Vl.zero (vs.take k) vs[k]
      have hwr3 := knows_snoc Vl.zero (vs.take k) vs[k]
      rw [take_succ_get hlt] at hwr hwr2 hwr3
      generalize knowAt Vl.zero (vs.take k) = t at *
      generalize wrote Vl.zero (vs.take k) = L at *
      generalize knows Vl.zero (vs.take k) = KS at *
      generalize vs[k] = x at *
      have HW1 := hid hwr
      have HW2 := hid hwr2
      have HW3 := hid hwr3
      have hw' := written_sound (v := x) ht.1 ht.2 hv
      have HP := hid (fun W h1 h2 => xput_own L (by omega) a3 c3 t ht.2 ht.1 x hv W h1 h2)
      generalize (written t x).2 = t' at *
      obtain ⟨L', hL'⟩ : ∃ L', L ++ (written t x).1 = L' := ⟨_, rfl⟩
      have HL' := hid hL'
      rw [hL'] at HP
      have HS := hid (fun W => xsound_any t' hw'.2.2.2 W)
      rw [hw'.1] at HS
      have r40 := HB4.out.cell 0 rfl
      have r41 := HB4.out.cell 1 rfl
      have r42 := HB4.out.cell 2 rfl
      have r43 := HB4.out.cell 3 rfl
      have g40 := HB4.out.free 0
      have g41 := HB4.out.free 1
      have g42 := HB4.out.free 2
      have g43 := HB4.out.free 3
      have l4 := HB4.out.lt
      have m31 : ∀ x, p3 < wr.heap.size + x := fun x => by omega
      have m32 : ∀ x y, p3 < wr.heap.size + x + y := fun x y => by omega
      have m33 : ∀ x y z, p3 < wr.heap.size + x + y + z := fun x y z => by omega
      have m34 : ∀ x y z u, p3 < wr.heap.size + x + y + z + u := fun x y z u => by omega
      have m41 : ∀ x, p4 < wr.heap.size + x := fun x => by omega
      have m42 : ∀ x y, p4 < wr.heap.size + x + y := fun x y => by omega
      have m43 : ∀ x y z, p4 < wr.heap.size + x + y + z := fun x y z => by omega
      have m44 : ∀ x y z u, p4 < wr.heap.size + x + y + z + u := fun x y z u => by omega
      have hb4' : Hid (p4 + 1 ≤ wr.heap.size) := hid l4
      have no3 : o.ownBlock ≠ some p3 := fun h => by have := (Own.lt HAL.out h).1; omega
      have no4 : o.ownBlock ≠ some p4 := fun h => by have := (Own.lt HAL.out h).1; omega
      have nl3 : p3 ∉ o.ownBlock.toList := by simpa using no3
      have nl4 : p4 ∉ o.ownBlock.toList := by simpa using no4
      have n34 : ¬ p3 = p4 := by omega
      have n43 : ¬ p4 = p3 := by omega
      have hob : ∀ i ∈ o.ownBlock.toList, w.heap.size ≤ i := fun i hi => by have := (Own.lt HAL.out (g := i) (by simpa using hi)).1; omega
      have hwb : w.heap.size ≤ wr.heap.size := by omega
      have hbr : b6 < wr.heap.size := by omega
      have kr : wr.cell? ⟨b6, o6 + k, none⟩ = some (.int .u64 x) := by obtain ⟨e0, rfl⟩ := H0.out; rw [cell_over _ _ _ _ hb6]; exact k0
      clear hw' hvk hwr hwr2 hwr3 hL' k0
      go_wp2_with fail
      refine M2.wp_region_tree (fun w' => ∃ e : World, w' = over _ e) [6, 11, 12, 13, 14] (.q 0 (.q 1 (.q 2 (.q 3 (.q 4 (.q 5 (.e 6 (.q 7 (.q 8 (.q 9 (.q 10 (.e 11 (.e 12 (.e 13 (.e 14 (.q 15 .done) .no) .no) .no) (.e 12 (.e 11 (.e 13 (.e 14 (.q 15 .done) .no) .no) .no) .no)))))) (.e 11 (.e 6 (.q 7 (.q 8 (.q 9 (.q 10 (.e 12 (.e 13 (.e 14 (.q 15 .done) .no) .no) .no))))) (.e 12 (.e 6 (.q 7 (.q 8 (.q 9 (.q 10 (.e 13 (.e 14 (.q 15 .done) .no) .no))))) .no) .no)) (.e 12 (.e 6 (.q 7 (.q 8 (.q 9 (.q 10 (.e 11 (.e 13 (.e 14 (.q 15 .done) .no) .no) .no))))) (.e 11 (.e 6 (.q 7 (.q 8 (.q 9 (.q 10 (.e 13 (.e 14 (.q 15 .done) .no) .no))))) .no) .no)) .no))))))))) (by kernel_rfl) (by kernel_rfl) (ex_drew (over_self _)) ?_
      refine M2.tree_q (k := 0) rfl rfl ?_
      go_big_quiet_step (fail)
      with_reducible refine wpQuiet_nil ?_
      refine M2.tree_q (k := 1) rfl rfl ?_
      go_big_quiet_step (fail)
      with_reducible refine wpQuiet_nil ?_
      refine M2.tree_q (k := 2) rfl rfl ?_
      go_big_quiet_step (fail)
      with_reducible refine wpQuiet_nil ?_
      refine M2.tree_q (k := 3) rfl rfl ?_
      go_big_quiet_step (fail)
      with_reducible refine wpQuiet_nil ?_
      refine M2.tree_q (k := 4) rfl rfl ?_
      go_big_quiet_step (fail)
      with_reducible refine wpQuiet_nil ?_
      refine M2.tree_q (k := 5) rfl rfl ?_
      go_big_quiet_step (fail)
      with_reducible refine wpQuiet_nil ?_
      refine M2.tree_e (k := 6) rfl ?_ ?_
      · go_wp2_with ((go_at_call 21; (with_reducible refine (HP.out _ (by repeat (first | with_reducible exact hsb | with_reducible refine Sl.over ?_ _ | with_reducible refine Sl.alloc ?_ _ | with_reducible refine Sl.drew ?_ | exact hsb)) (TabW.ov hT (by (try unfold Ov); repeat (first | with_reducible exact H0.out | with_reducible exact H0.out | with_reducible refine ex_undrew ?_ | with_reducible refine ex_into ?_ _ | with_reducible refine ex_alloc ?_ _ | with_reducible refine ex_drew ?_ | ((with_reducible refine ex_setCell ?_ ?_ _); rotate_left; (first | omega | (focus (simp; done)) | (focus (simp; omega)))) | ((with_reducible refine ex_chg ?_ _ ?_); rotate_left; (first | assumption | (exact Hid.out (by assumption)))) | exact ex_over)))).mono ?_); rintro _ _ ⟨a7, c7, rfl, ⟨e7, rfl⟩, ho7⟩; have HO7 := hid ho7; clear ho7))
        refine M2.TreeQ.mk (by (try unfold Ov); repeat (first | with_reducible exact ex_over | with_reducible exact over_self _ | with_reducible refine ex_undrew ?_ | with_reducible refine ex_into ?_ _ | with_reducible refine ex_alloc ?_ _ | with_reducible refine ex_drew ?_ | ((with_reducible refine ex_setCell ?_ ?_ _); rotate_left; (first | omega | (focus (simp; done)) | (focus (simp; omega)))) | ((with_reducible refine ex_chg ?_ _ ?_); rotate_left; (first | assumption | (exact Hid.out (by assumption)))) | exact ex_over)) ?_
        refine M2.tree_q (k := 7) rfl rfl ?_
        go_big_quiet_step (fail)
        with_reducible refine wpQuiet_nil ?_
        refine M2.tree_q (k := 8) rfl rfl ?_
        go_big_quiet_step (fail)
        with_reducible refine wpQuiet_nil ?_
        refine M2.tree_q (k := 9) rfl rfl ?_
        go_big_quiet_step (fail)
        with_reducible refine wpQuiet_nil ?_
        refine M2.tree_q (k := 10) rfl rfl ?_
        go_big_quiet_step (fail)
        with_reducible refine wpQuiet_nil ?_
        refine M2.tree_e (k := 11) rfl ?_ ?_
        · go_wp2_with ((go_at_call 21; (with_reducible refine (HP.out _ (by repeat (first | with_reducible exact hsb | with_reducible refine Sl.over ?_ _ | with_reducible refine Sl.alloc ?_ _ | with_reducible refine Sl.drew ?_ | exact hsb)) (TabW.ov hT (by (try unfold Ov); repeat (first | with_reducible exact H0.out | with_reducible exact H0.out | with_reducible refine ex_undrew ?_ | with_reducible refine ex_into ?_ _ | with_reducible refine ex_alloc ?_ _ | with_reducible refine ex_drew ?_ | ((with_reducible refine ex_setCell ?_ ?_ _); rotate_left; (first | omega | (focus (simp; done)) | (focus (simp; omega)))) | ((with_reducible refine ex_chg ?_ _ ?_); rotate_left; (first | assumption | (exact Hid.out (by assumption)))) | exact ex_over)))).mono ?_); rintro _ _ ⟨a7, c7, rfl, ⟨e7, rfl⟩, ho7⟩; have HO7 := hid ho7; clear ho7))
          refine M2.TreeQ.mk (by (try unfold Ov); repeat (first | with_reducible exact ex_over | with_reducible exact over_self _ | with_reducible refine ex_undrew ?_ | with_reducible refine ex_into ?_ _ | with_reducible refine ex_alloc ?_ _ | with_reducible refine ex_drew ?_ | ((with_reducible refine ex_setCell ?_ ?_ _); rotate_left; (first | omega | (focus (simp; done)) | (focus (simp; omega)))) | ((with_reducible refine ex_chg ?_ _ ?_); rotate_left; (first | assumption | (exact Hid.out (by assumption)))) | exact ex_over)) ?_
          refine M2.tree_e (k := 12) rfl ?_ ?_
          · go_wp2_with ((go_at_call 21; (with_reducible refine (HP.out _ (by repeat (first | with_reducible exact hsb | with_reducible refine Sl.over ?_ _ | with_reducible refine Sl.alloc ?_ _ | with_reducible refine Sl.drew ?_ | exact hsb)) (TabW.ov hT (by (try unfold Ov); repeat (first | with_reducible exact H0.out | with_reducible exact H0.out | with_reducible refine ex_undrew ?_ | with_reducible refine ex_into ?_ _ | with_reducible refine ex_alloc ?_ _ | with_reducible refine ex_drew ?_ | ((with_reducible refine ex_setCell ?_ ?_ _); rotate_left; (first | omega | (focus (simp; done)) | (focus (simp; omega)))) | ((with_reducible refine ex_chg ?_ _ ?_); rotate_left; (first | assumption | (exact Hid.out (by assumption)))) | exact ex_over)))).mono ?_); rintro _ _ ⟨a7, c7, rfl, ⟨e7, rfl⟩, ho7⟩; have HO7 := hid ho7; clear ho7))
            refine M2.TreeQ.mk (by (try unfold Ov); repeat (first | with_reducible exact ex_over | with_reducible exact over_self _ | with_reducible refine ex_undrew ?_ | with_reducible refine ex_into ?_ _ | with_reducible refine ex_alloc ?_ _ | with_reducible refine ex_drew ?_ | ((with_reducible refine ex_setCell ?_ ?_ _); rotate_left; (first | omega | (focus (simp; done)) | (focus (simp; omega)))) | ((with_reducible refine ex_chg ?_ _ ?_); rotate_left; (first | assumption | (exact Hid.out (by assumption)))) | exact ex_over)) ?_
            refine M2.tree_e (k := 13) rfl ?_ ?_
            · go_wp2_with ((go_at_call 21; (with_reducible refine (HP.out _ (by repeat (first | with_reducible exact hsb | with_reducible refine Sl.over ?_ _ | with_reducible refine Sl.alloc ?_ _ | with_reducible refine Sl.drew ?_ | exact hsb)) (TabW.ov hT (by (try unfold Ov); repeat (first | with_reducible exact H0.out | with_reducible exact H0.out | with_reducible refine ex_undrew ?_ | with_reducible refine ex_into ?_ _ | with_reducible refine ex_alloc ?_ _ | with_reducible refine ex_drew ?_ | ((with_reducible refine ex_setCell ?_ ?_ _); rotate_left; (first | omega | (focus (simp; done)) | (focus (simp; omega)))) | ((with_reducible refine ex_chg ?_ _ ?_); rotate_left; (first | assumption | (exact Hid.out (by assumption)))) | exact ex_over)))).mono ?_); rintro _ _ ⟨a7, c7, rfl, ⟨e7, rfl⟩, ho7⟩; have HO7 := hid ho7; clear ho7))
              refine M2.TreeQ.mk (by (try unfold Ov); repeat (first | with_reducible exact ex_over | with_reducible exact over_self _ | with_reducible refine ex_undrew ?_ | with_reducible refine ex_into ?_ _ | with_reducible refine ex_alloc ?_ _ | with_reducible refine ex_drew ?_ | ((with_reducible refine ex_setCell ?_ ?_ _); rotate_left; (first | omega | (focus (simp; done)) | (focus (simp; omega)))) | ((with_reducible refine ex_chg ?_ _ ?_); rotate_left; (first | assumption | (exact Hid.out (by assumption)))) | exact ex_over)) ?_
              refine M2.tree_e (k := 14) rfl ?_ ?_
              · go_wp2_with ((go_at_call 21; (with_reducible refine (HP.out _ (by repeat (first | with_reducible exact hsb | with_reducible refine Sl.over ?_ _ | with_reducible refine Sl.alloc ?_ _ | with_reducible refine Sl.drew ?_ | exact hsb)) (TabW.ov hT (by (try unfold Ov); repeat (first | with_reducible exact H0.out | with_reducible exact H0.out | with_reducible refine ex_undrew ?_ | with_reducible refine ex_into ?_ _ | with_reducible refine ex_alloc ?_ _ | with_reducible refine ex_drew ?_ | ((with_reducible refine ex_setCell ?_ ?_ _); rotate_left; (first | omega | (focus (simp; done)) | (focus (simp; omega)))) | ((with_reducible refine ex_chg ?_ _ ?_); rotate_left; (first | assumption | (exact Hid.out (by assumption)))) | exact ex_over)))).mono ?_); rintro _ _ ⟨a7, c7, rfl, ⟨e7, rfl⟩, ho7⟩; have HO7 := hid ho7; clear ho7))
                refine M2.TreeQ.mk (by (try unfold Ov); repeat (first | with_reducible exact ex_over | with_reducible exact over_self _ | with_reducible refine ex_undrew ?_ | with_reducible refine ex_into ?_ _ | with_reducible refine ex_alloc ?_ _ | with_reducible refine ex_drew ?_ | ((with_reducible refine ex_setCell ?_ ?_ _); rotate_left; (first | omega | (focus (simp; done)) | (focus (simp; omega)))) | ((with_reducible refine ex_chg ?_ _ ?_); rotate_left; (first | assumption | (exact Hid.out (by assumption)))) | exact ex_over)) ?_
                refine M2.tree_q (k := 15) rfl rfl ?_
                go_big_quiet_step (fail)
                with_reducible refine wpQuiet_nil ?_
                refine M2.tree_done ?_
                refine gen_w ?_
                intro W7 hW7
                have O7 : Hid (∃ e, W7 = over w e) := hid (by rw [hW7]; exact (by (try unfold Ov); repeat (first | with_reducible exact H0.out | with_reducible exact H0.out | with_reducible refine ex_undrew ?_ | with_reducible refine ex_into ?_ _ | with_reducible refine ex_alloc ?_ _ | with_reducible refine ex_drew ?_ | ((with_reducible refine ex_setCell ?_ ?_ _); rotate_left; (first | omega | (focus (simp; done)) | (focus (simp; omega)))) | ((with_reducible refine ex_chg ?_ _ ?_); rotate_left; (first | assumption | (exact Hid.out (by assumption)))) | exact ex_over)))
                have A3 : Hid (Blk W7 p3 [.slice a3 (pack L).length c3, .int .i64 (L.length : Nat)] 29) := hid (by rw [hW7]; exact (by repeat (first | with_reducible exact HB3.out | with_reducible refine Blk.alloc ?_ _ | with_reducible refine Blk.drew ?_ | with_reducible refine Blk.on ?_ _ | ((with_reducible refine Blk.chg ?_ (chg_chg _ _ _) ?_); rotate_left; (first | assumption | (focus (simp; done)) | (focus (simp; omega)))) | with_reducible refine Blk.set ?_ _ _ | ((with_reducible refine Blk.set_ne ?_ ?_ _); rotate_left; (first | assumption | (focus (simp; done)) | (focus (simp; omega)))))))
                have A4 : Hid (Blk W7 p4 t.cs 24) := hid (by rw [hW7]; exact (by repeat (first | with_reducible exact HB4.out | with_reducible refine Blk.alloc ?_ _ | with_reducible refine Blk.drew ?_ | with_reducible refine Blk.on ?_ _ | ((with_reducible refine Blk.chg ?_ (chg_chg _ _ _) ?_); rotate_left; (first | assumption | (focus (simp; done)) | (focus (simp; omega)))) | with_reducible refine Blk.set ?_ _ _ | ((with_reducible refine Blk.set_ne ?_ ?_ _); rotate_left; (first | assumption | (focus (simp; done)) | (focus (simp; omega)))))))
                have A7 : Hid (Blk W7 (wr.heap.size + e7.heap.size) [.slice a7 (pack L').length c7, .int .i64 (L'.length : Nat)] 29) := hid (by rw [hW7]; exact (by repeat (first | exact Blk.new' (by simp; done) | exact Blk.new' rfl | with_reducible assumption | with_reducible refine Blk.alloc ?_ _ | with_reducible refine Blk.drew ?_ | with_reducible refine Blk.on ?_ _ | ((with_reducible refine Blk.chg ?_ (chg_chg _ _ _) ?_); rotate_left; (first | assumption | (focus (simp; done)) | (focus (simp; omega)))))))
                have A8 : Hid (Blk W7 (wr.heap.size + e7.heap.size + 1) t'.cs 24) := hid (by rw [hW7]; exact (by repeat (first | exact Blk.new' (by simp; done) | exact Blk.new' rfl | with_reducible assumption | with_reducible refine Blk.alloc ?_ _ | with_reducible refine Blk.drew ?_ | with_reducible refine Blk.on ?_ _ | ((with_reducible refine Blk.chg ?_ (chg_chg _ _ _) ?_); rotate_left; (first | assumption | (focus (simp; done)) | (focus (simp; omega)))))))
                have AL : Hid (OwnV (p4 + 1) W7 o KS) := hid (by rw [hW7]; exact (by repeat (first | with_reducible exact HAL.out | ((with_reducible refine Own.set_ne ?_ ?_ _); rotate_left; (first | assumption | (focus (simp; done)) | (focus (simp [Value.ownBlock]; done)) | (focus (simp [Value.ownBlock]; omega)))) | ((with_reducible refine Own.in_some ?_ _ ?_); rotate_left; (first | assumption | (focus (simp; done)) | (focus (simp; omega)))) | ((with_reducible refine Own.in_one ?_ _ ?_); rotate_left; (first | assumption | (focus (simp [Value.ownBlock]; done)) | (focus (simp [Value.ownBlock]; omega)))) | ((with_reducible refine Own.chg ?_ (chg_chg _ _ _) ?_); rotate_left; (first | assumption | (focus (simp; done)) | (focus (simp; omega)))) | with_reducible refine Own.over ?_ _ | with_reducible refine Own.alloc ?_ _ | with_reducible refine Own.drew ?_ | exact HAL.out)))
                have AB : Hid (OwnB wr.heap.size W7 (.slice a7 (pack L').length c7) (pack L')) := hid (by rw [hW7]; (repeat (first | with_reducible refine Own.alloc ?_ _ | with_reducible refine Own.drew ?_)); exact Own.mono (Own.over_swap HO7.out (by first | exact Nat.le_refl _ | rfl | omega | (simp; done) | (simp; omega)) (by first | exact Nat.le_refl _ | rfl | omega | (simp; done) | (simp; omega))) (by first | exact Nat.le_refl _ | rfl | omega | (simp; done) | (simp; omega)))
                have hwW : wr.heap.size ≤ W7.heap.size := by rw [hW7]; simp; try omega
                clear hW7
                have n73 : ¬ ((wr.heap.size + e7.heap.size) = p3) := by omega
                have n74 : ¬ ((wr.heap.size + e7.heap.size) = p4) := by omega
                have n83 : ¬ ((wr.heap.size + e7.heap.size + 1) = p3) := by omega
                have n84 : ¬ ((wr.heap.size + e7.heap.size + 1) = p4) := by omega
                have n37 : ¬ (p3 = (wr.heap.size + e7.heap.size)) := by omega
                have n38 : ¬ (p3 = (wr.heap.size + e7.heap.size + 1)) := by omega
                have n47 : ¬ (p4 = (wr.heap.size + e7.heap.size)) := by omega
                have n48 : ¬ (p4 = (wr.heap.size + e7.heap.size + 1)) := by omega
                obtain ⟨p7, hp7⟩ : ∃ p, p = (wr.heap.size + e7.heap.size) := ⟨_, rfl⟩
                obtain ⟨p8, hp8⟩ : ∃ p, p = (wr.heap.size + e7.heap.size + 1) := ⟨_, rfl⟩
                first
                  | (rw [← hp8] at A8 n83 n84 n38 n48 ⊢; rw [← hp7] at A7 n73 n74 n37 n47 ⊢)
                  | (rw [← hp7] at A7 n73 n74 n37 n47 ⊢; rw [← hp8] at A8 n83 n84 n38 n48 ⊢)
                clear hp7 hp8
                clear m31 m32 m33 m34 m41 m42 m43 m44 r30 r31 g30 g31 l3 r40 r41 r42 r43 g40 g41 g42 g43 l4 hsb
                have r30 := A3.out.cell 0 rfl
                have r31 := A3.out.cell 1 rfl
                have g30 := A3.out.free 0
                have g31 := A3.out.free 1
                have l3 := A3.out.lt
                have r40 := A4.out.cell 0 rfl
                have r41 := A4.out.cell 1 rfl
                have r42 := A4.out.cell 2 rfl
                have r43 := A4.out.cell 3 rfl
                have g40 := A4.out.free 0
                have g41 := A4.out.free 1
                have g42 := A4.out.free 2
                have g43 := A4.out.free 3
                have l4 := A4.out.lt
                have r70 := A7.out.cell 0 rfl
                have r71 := A7.out.cell 1 rfl
                have l7 := A7.out.lt
                have r80 := A8.out.cell 0 rfl
                have r81 := A8.out.cell 1 rfl
                have r82 := A8.out.cell 2 rfl
                have r83 := A8.out.cell 3 rfl
                have l8 := A8.out.lt
                go_wp2_with (first | (go_at_call 19; (with_reducible refine (HS.out _).mono ?_); rintro _ _ ⟨⟨e8, rfl⟩, rfl⟩) | (at_builtin; refine wpList_append' val_elem Vl.cs_len Vl.cs_one rfl (.tmp 53) (.tmp 55) rfl (base := p4 + 1) (v := o) (ys := KS) (xs := [t']) (by repeat (first | with_reducible exact AL.out | ((with_reducible refine Own.set_ne ?_ ?_ _); rotate_left; (first | assumption | (focus (simp; done)) | (focus (simp [Value.ownBlock]; done)) | (focus (simp [Value.ownBlock]; omega)))) | ((with_reducible refine Own.in_some ?_ _ ?_); rotate_left; (first | assumption | (focus (simp; done)) | (focus (simp; omega)))) | ((with_reducible refine Own.in_one ?_ _ ?_); rotate_left; (first | assumption | (focus (simp [Value.ownBlock]; done)) | (focus (simp [Value.ownBlock]; omega)))) | ((with_reducible refine Own.chg ?_ (chg_chg _ _ _) ?_); rotate_left; (first | assumption | (focus (simp; done)) | (focus (simp; omega)))) | with_reducible refine Own.over ?_ _ | with_reducible refine Own.alloc ?_ _ | with_reducible refine Own.drew ?_ | exact AL.out)) rfl rfl (by first | exact Nat.le_refl _ | rfl | omega | (simp; done) | (simp; omega)) (by (repeat with_reducible refine Sl.drew ?_); exact Sl.one_new (y := t') (by simp; try omega)) (by simp only [List.length_append, List.length_singleton]; unfold maxLen; omega) (by simp only [List.length_append, List.length_singleton]; omega) ?_; intro v' m hown' hv'; have HV := hid hv'; have HW := hid hown'; clear hv' hown'))
                go_roundw
                case rel =>
                  have hL1 := HL'.out
                  have hb4 : p4 + 1 ≤ wr.heap.size := hb4'.out
                  have hlt7 : ∀ g, (Value.slice a7 (pack L').length c7).ownBlock = some g → wr.heap.size ≤ g ∧ g < W7.heap.size := fun g hg => Own.lt AB.out hg
                  have hov : ∀ g, o.ownBlock = some g → g < wr.heap.size := fun g hg => (Own.lt HAL.out hg).2
                  refine ⟨k + 1, v', by omega, by go_num, rfl, ?_⟩
                  refine ⟨(by (try unfold Ov); repeat (first | with_reducible exact O7.out | with_reducible exact O7.out | with_reducible refine ex_undrew ?_ | with_reducible refine ex_into ?_ _ | with_reducible refine ex_alloc ?_ _ | with_reducible refine ex_drew ?_ | ((with_reducible refine ex_setCell ?_ ?_ _); rotate_left; (first | omega | (focus (simp; done)) | (focus (simp; omega)))) | ((with_reducible refine ex_chg ?_ _ ?_); rotate_left; (first | assumption | (exact Hid.out (by assumption)))) | exact ex_over)), ⟨a7, c7, ⟨?_, ?_⟩, ?_⟩, ?_, ?_⟩
                  · rw [HW2.out, hL1]; exact bk_p3 A3.out n34 nl3
                  · rw [HW2.out, hL1]
                    refine Own.mono (bk_own AB.out (fun h => by have := (hlt7 _ h).1; have := hp34; omega) (fun h => by have := (hlt7 _ h).1; have := hp34; omega) (fun g hg hm => ?_)) hb4
                    have h1 := (hlt7 g hg).1
                    have h2 := hov g (by simpa using hm)
                    omega
                  · rw [HW2.out, hL1]
                    intro g hg hg'
                    have h1 := hlt7 g hg
                    rcases HV.out with h2 | ⟨g2, h2, h3⟩
                    · have h4 := hov g (by rw [← h2]; exact hg')
                      omega
                    · rw [h2] at hg'
                      have h4 : g2 = g := Option.some.inj hg'
                      have h5 : W7.heap.size ≤ g2 := by simp at h3; omega
                      omega
                  · rw [HW1.out]; exact bk_p4 A4.out n43 nl4
                  · rw [HW3.out]; exact HW.out
                case measure => simp [intOf]; omega
              exact M2.tree_no
            exact M2.tree_no
          exact M2.tree_no
        refine M2.tree_e (k := 12) rfl ?_ ?_
        · go_wp2_with ((go_at_call 21; (with_reducible refine (HP.out _ (by repeat (first | with_reducible exact hsb | with_reducible refine Sl.over ?_ _ | with_reducible refine Sl.alloc ?_ _ | with_reducible refine Sl.drew ?_ | exact hsb)) (TabW.ov hT (by (try unfold Ov); repeat (first | with_reducible exact H0.out | with_reducible exact H0.out | with_reducible refine ex_undrew ?_ | with_reducible refine ex_into ?_ _ | with_reducible refine ex_alloc ?_ _ | with_reducible refine ex_drew ?_ | ((with_reducible refine ex_setCell ?_ ?_ _); rotate_left; (first | omega | (focus (simp; done)) | (focus (simp; omega)))) | ((with_reducible refine ex_chg ?_ _ ?_); rotate_left; (first | assumption | (exact Hid.out (by assumption)))) | exact ex_over)))).mono ?_); rintro _ _ ⟨a7, c7, rfl, ⟨e7, rfl⟩, ho7⟩; have HO7 := hid ho7; clear ho7))
          refine M2.TreeQ.mk (by (try unfold Ov); repeat (first | with_reducible exact ex_over | with_reducible exact over_self _ | with_reducible refine ex_undrew ?_ | with_reducible refine ex_into ?_ _ | with_reducible refine ex_alloc ?_ _ | with_reducible refine ex_drew ?_ | ((with_reducible refine ex_setCell ?_ ?_ _); rotate_left; (first | omega | (focus (simp; done)) | (focus (simp; omega)))) | ((with_reducible refine ex_chg ?_ _ ?_); rotate_left; (first | assumption | (exact Hid.out (by assumption)))) | exact ex_over)) ?_
          refine M2.tree_e (k := 11) rfl ?_ ?_
          · go_wp2_with ((go_at_call 21; (with_reducible refine (HP.out _ (by repeat (first | with_reducible exact hsb | with_reducible refine Sl.over ?_ _ | with_reducible refine Sl.alloc ?_ _ | with_reducible refine Sl.drew ?_ | exact hsb)) (TabW.ov hT (by (try unfold Ov); repeat (first | with_reducible exact H0.out | with_reducible exact H0.out | with_reducible refine ex_undrew ?_ | with_reducible refine ex_into ?_ _ | with_reducible refine ex_alloc ?_ _ | with_reducible refine ex_drew ?_ | ((with_reducible refine ex_setCell ?_ ?_ _); rotate_left; (first | omega | (focus (simp; done)) | (focus (simp; omega)))) | ((with_reducible refine ex_chg ?_ _ ?_); rotate_left; (first | assumption | (exact Hid.out (by assumption)))) | exact ex_over)))).mono ?_); rintro _ _ ⟨a7, c7, rfl, ⟨e7, rfl⟩, ho7⟩; have HO7 := hid ho7; clear ho7))
            refine M2.TreeQ.mk (by (try unfold Ov); repeat (first | with_reducible exact ex_over | with_reducible exact over_self _ | with_reducible refine ex_undrew ?_ | with_reducible refine ex_into ?_ _ | with_reducible refine ex_alloc ?_ _ | with_reducible refine ex_drew ?_ | ((with_reducible refine ex_setCell ?_ ?_ _); rotate_left; (first | omega | (focus (simp; done)) | (focus (simp; omega)))) | ((with_reducible refine ex_chg ?_ _ ?_); rotate_left; (first | assumption | (exact Hid.out (by assumption)))) | exact ex_over)) ?_
            refine M2.tree_e (k := 13) rfl ?_ ?_
            · go_wp2_with ((go_at_call 21; (with_reducible refine (HP.out _ (by repeat (first | with_reducible exact hsb | with_reducible refine Sl.over ?_ _ | with_reducible refine Sl.alloc ?_ _ | with_reducible refine Sl.drew ?_ | exact hsb)) (TabW.ov hT (by (try unfold Ov); repeat (first | with_reducible exact H0.out | with_reducible exact H0.out | with_reducible refine ex_undrew ?_ | with_reducible refine ex_into ?_ _ | with_reducible refine ex_alloc ?_ _ | with_reducible refine ex_drew ?_ | ((with_reducible refine ex_setCell ?_ ?_ _); rotate_left; (first | omega | (focus (simp; done)) | (focus (simp; omega)))) | ((with_reducible refine ex_chg ?_ _ ?_); rotate_left; (first | assumption | (exact Hid.out (by assumption)))) | exact ex_over)))).mono ?_); rintro _ _ ⟨a7, c7, rfl, ⟨e7, rfl⟩, ho7⟩; have HO7 := hid ho7; clear ho7))
              refine M2.TreeQ.mk (by (try unfold Ov); repeat (first | with_reducible exact ex_over | with_reducible exact over_self _ | with_reducible refine ex_undrew ?_ | with_reducible refine ex_into ?_ _ | with_reducible refine ex_alloc ?_ _ | with_reducible refine ex_drew ?_ | ((with_reducible refine ex_setCell ?_ ?_ _); rotate_left; (first | omega | (focus (simp; done)) | (focus (simp; omega)))) | ((with_reducible refine ex_chg ?_ _ ?_); rotate_left; (first | assumption | (exact Hid.out (by assumption)))) | exact ex_over)) ?_
              refine M2.tree_e (k := 14) rfl ?_ ?_
              · go_wp2_with ((go_at_call 21; (with_reducible refine (HP.out _ (by repeat (first | with_reducible exact hsb | with_reducible refine Sl.over ?_ _ | with_reducible refine Sl.alloc ?_ _ | with_reducible refine Sl.drew ?_ | exact hsb)) (TabW.ov hT (by (try unfold Ov); repeat (first | with_reducible exact H0.out | with_reducible exact H0.out | with_reducible refine ex_undrew ?_ | with_reducible refine ex_into ?_ _ | with_reducible refine ex_alloc ?_ _ | with_reducible refine ex_drew ?_ | ((with_reducible refine ex_setCell ?_ ?_ _); rotate_left; (first | omega | (focus (simp; done)) | (focus (simp; omega)))) | ((with_reducible refine ex_chg ?_ _ ?_); rotate_left; (first | assumption | (exact Hid.out (by assumption)))) | exact ex_over)))).mono ?_); rintro _ _ ⟨a7, c7, rfl, ⟨e7, rfl⟩, ho7⟩; have HO7 := hid ho7; clear ho7))
                refine M2.TreeQ.mk (by (try unfold Ov); repeat (first | with_reducible exact ex_over | with_reducible exact over_self _ | with_reducible refine ex_undrew ?_ | with_reducible refine ex_into ?_ _ | with_reducible refine ex_alloc ?_ _ | with_reducible refine ex_drew ?_ | ((with_reducible refine ex_setCell ?_ ?_ _); rotate_left; (first | omega | (focus (simp; done)) | (focus (simp; omega)))) | ((with_reducible refine ex_chg ?_ _ ?_); rotate_left; (first | assumption | (exact Hid.out (by assumption)))) | exact ex_over)) ?_
                refine M2.tree_q (k := 15) rfl rfl ?_
                go_big_quiet_step (fail)
                with_reducible refine wpQuiet_nil ?_
                refine M2.tree_done ?_
                refine gen_w ?_
                intro W7 hW7
                have O7 : Hid (∃ e, W7 = over w e) := hid (by rw [hW7]; exact (by (try unfold Ov); repeat (first | with_reducible exact H0.out | with_reducible exact H0.out | with_reducible refine ex_undrew ?_ | with_reducible refine ex_into ?_ _ | with_reducible refine ex_alloc ?_ _ | with_reducible refine ex_drew ?_ | ((with_reducible refine ex_setCell ?_ ?_ _); rotate_left; (first | omega | (focus (simp; done)) | (focus (simp; omega)))) | ((with_reducible refine ex_chg ?_ _ ?_); rotate_left; (first | assumption | (exact Hid.out (by assumption)))) | exact ex_over)))
                have A3 : Hid (Blk W7 p3 [.slice a3 (pack L).length c3, .int .i64 (L.length : Nat)] 29) := hid (by rw [hW7]; exact (by repeat (first | with_reducible exact HB3.out | with_reducible refine Blk.alloc ?_ _ | with_reducible refine Blk.drew ?_ | with_reducible refine Blk.on ?_ _ | ((with_reducible refine Blk.chg ?_ (chg_chg _ _ _) ?_); rotate_left; (first | assumption | (focus (simp; done)) | (focus (simp; omega)))) | with_reducible refine Blk.set ?_ _ _ | ((with_reducible refine Blk.set_ne ?_ ?_ _); rotate_left; (first | assumption | (focus (simp; done)) | (focus (simp; omega)))))))
                have A4 : Hid (Blk W7 p4 t.cs 24) := hid (by rw [hW7]; exact (by repeat (first | with_reducible exact HB4.out | with_reducible refine Blk.alloc ?_ _ | with_reducible refine Blk.drew ?_ | with_reducible refine Blk.on ?_ _ | ((with_reducible refine Blk.chg ?_ (chg_chg _ _ _) ?_); rotate_left; (first | assumption | (focus (simp; done)) | (focus (simp; omega)))) | with_reducible refine Blk.set ?_ _ _ | ((with_reducible refine Blk.set_ne ?_ ?_ _); rotate_left; (first | assumption | (focus (simp; done)) | (focus (simp; omega)))))))
                have A7 : Hid (Blk W7 (wr.heap.size + e7.heap.size + 1) [.slice a7 (pack L').length c7, .int .i64 (L'.length : Nat)] 29) := hid (by rw [hW7]; exact (by repeat (first | exact Blk.new' (by simp; done) | exact Blk.new' rfl | with_reducible assumption | with_reducible refine Blk.alloc ?_ _ | with_reducible refine Blk.drew ?_ | with_reducible refine Blk.on ?_ _ | ((with_reducible refine Blk.chg ?_ (chg_chg _ _ _) ?_); rotate_left; (first | assumption | (focus (simp; done)) | (focus (simp; omega)))))))
                have A8 : Hid (Blk W7 (wr.heap.size + e7.heap.size) t'.cs 24) := hid (by rw [hW7]; exact (by repeat (first | exact Blk.new' (by simp; done) | exact Blk.new' rfl | with_reducible assumption | with_reducible refine Blk.alloc ?_ _ | with_reducible refine Blk.drew ?_ | with_reducible refine Blk.on ?_ _ | ((with_reducible refine Blk.chg ?_ (chg_chg _ _ _) ?_); rotate_left; (first | assumption | (focus (simp; done)) | (focus (simp; omega)))))))
                have AL : Hid (OwnV (p4 + 1) W7 o KS) := hid (by rw [hW7]; exact (by repeat (first | with_reducible exact HAL.out | ((with_reducible refine Own.set_ne ?_ ?_ _); rotate_left; (first | assumption | (focus (simp; done)) | (focus (simp [Value.ownBlock]; done)) | (focus (simp [Value.ownBlock]; omega)))) | ((with_reducible refine Own.in_some ?_ _ ?_); rotate_left; (first | assumption | (focus (simp; done)) | (focus (simp; omega)))) | ((with_reducible refine Own.in_one ?_ _ ?_); rotate_left; (first | assumption | (focus (simp [Value.ownBlock]; done)) | (focus (simp [Value.ownBlock]; omega)))) | ((with_reducible refine Own.chg ?_ (chg_chg _ _ _) ?_); rotate_left; (first | assumption | (focus (simp; done)) | (focus (simp; omega)))) | with_reducible refine Own.over ?_ _ | with_reducible refine Own.alloc ?_ _ | with_reducible refine Own.drew ?_ | exact HAL.out)))
                have AB : Hid (OwnB wr.heap.size W7 (.slice a7 (pack L').length c7) (pack L')) := hid (by rw [hW7]; (repeat (first | with_reducible refine Own.alloc ?_ _ | with_reducible refine Own.drew ?_)); exact Own.mono (Own.over_swap HO7.out (by first | exact Nat.le_refl _ | rfl | omega | (simp; done) | (simp; omega)) (by first | exact Nat.le_refl _ | rfl | omega | (simp; done) | (simp; omega))) (by first | exact Nat.le_refl _ | rfl | omega | (simp; done) | (simp; omega)))
                have hwW : wr.heap.size ≤ W7.heap.size := by rw [hW7]; simp; try omega
                clear hW7
                have n73 : ¬ ((wr.heap.size + e7.heap.size + 1) = p3) := by omega
                have n74 : ¬ ((wr.heap.size + e7.heap.size + 1) = p4) := by omega
                have n83 : ¬ ((wr.heap.size + e7.heap.size) = p3) := by omega
                have n84 : ¬ ((wr.heap.size + e7.heap.size) = p4) := by omega
                have n37 : ¬ (p3 = (wr.heap.size + e7.heap.size + 1)) := by omega
                have n38 : ¬ (p3 = (wr.heap.size + e7.heap.size)) := by omega
                have n47 : ¬ (p4 = (wr.heap.size + e7.heap.size + 1)) := by omega
                have n48 : ¬ (p4 = (wr.heap.size + e7.heap.size)) := by omega
                obtain ⟨p7, hp7⟩ : ∃ p, p = (wr.heap.size + e7.heap.size + 1) := ⟨_, rfl⟩
                obtain ⟨p8, hp8⟩ : ∃ p, p = (wr.heap.size + e7.heap.size) := ⟨_, rfl⟩
                first
                  | (rw [← hp8] at A8 n83 n84 n38 n48 ⊢; rw [← hp7] at A7 n73 n74 n37 n47 ⊢)
                  | (rw [← hp7] at A7 n73 n74 n37 n47 ⊢; rw [← hp8] at A8 n83 n84 n38 n48 ⊢)
                clear hp7 hp8
                clear m31 m32 m33 m34 m41 m42 m43 m44 r30 r31 g30 g31 l3 r40 r41 r42 r43 g40 g41 g42 g43 l4 hsb
                have r30 := A3.out.cell 0 rfl
                have r31 := A3.out.cell 1 rfl
                have g30 := A3.out.free 0
                have g31 := A3.out.free 1
                have l3 := A3.out.lt
                have r40 := A4.out.cell 0 rfl
                have r41 := A4.out.cell 1 rfl
                have r42 := A4.out.cell 2 rfl
                have r43 := A4.out.cell 3 rfl
                have g40 := A4.out.free 0
                have g41 := A4.out.free 1
                have g42 := A4.out.free 2
                have g43 := A4.out.free 3
                have l4 := A4.out.lt
                have r70 := A7.out.cell 0 rfl
                have r71 := A7.out.cell 1 rfl
                have l7 := A7.out.lt
                have r80 := A8.out.cell 0 rfl
                have r81 := A8.out.cell 1 rfl
                have r82 := A8.out.cell 2 rfl
                have r83 := A8.out.cell 3 rfl
                have l8 := A8.out.lt
                go_wp2_with (first | (go_at_call 19; (with_reducible refine (HS.out _).mono ?_); rintro _ _ ⟨⟨e8, rfl⟩, rfl⟩) | (at_builtin; refine wpList_append' val_elem Vl.cs_len Vl.cs_one rfl (.tmp 53) (.tmp 55) rfl (base := p4 + 1) (v := o) (ys := KS) (xs := [t']) (by repeat (first | with_reducible exact AL.out | ((with_reducible refine Own.set_ne ?_ ?_ _); rotate_left; (first | assumption | (focus (simp; done)) | (focus (simp [Value.ownBlock]; done)) | (focus (simp [Value.ownBlock]; omega)))) | ((with_reducible refine Own.in_some ?_ _ ?_); rotate_left; (first | assumption | (focus (simp; done)) | (focus (simp; omega)))) | ((with_reducible refine Own.in_one ?_ _ ?_); rotate_left; (first | assumption | (focus (simp [Value.ownBlock]; done)) | (focus (simp [Value.ownBlock]; omega)))) | ((with_reducible refine Own.chg ?_ (chg_chg _ _ _) ?_); rotate_left; (first | assumption | (focus (simp; done)) | (focus (simp; omega)))) | with_reducible refine Own.over ?_ _ | with_reducible refine Own.alloc ?_ _ | with_reducible refine Own.drew ?_ | exact AL.out)) rfl rfl (by first | exact Nat.le_refl _ | rfl | omega | (simp; done) | (simp; omega)) (by (repeat with_reducible refine Sl.drew ?_); exact Sl.one_new (y := t') (by simp; try omega)) (by simp only [List.length_append, List.length_singleton]; unfold maxLen; omega) (by simp only [List.length_append, List.length_singleton]; omega) ?_; intro v' m hown' hv'; have HV := hid hv'; have HW := hid hown'; clear hv' hown'))
                go_roundw
                case rel =>
                  have hL1 := HL'.out
                  have hb4 : p4 + 1 ≤ wr.heap.size := hb4'.out
                  have hlt7 : ∀ g, (Value.slice a7 (pack L').length c7).ownBlock = some g → wr.heap.size ≤ g ∧ g < W7.heap.size := fun g hg => Own.lt AB.out hg
                  have hov : ∀ g, o.ownBlock = some g → g < wr.heap.size := fun g hg => (Own.lt HAL.out hg).2
                  refine ⟨k + 1, v', by omega, by go_num, rfl, ?_⟩
                  refine ⟨(by (try unfold Ov); repeat (first | with_reducible exact O7.out | with_reducible exact O7.out | with_reducible refine ex_undrew ?_ | with_reducible refine ex_into ?_ _ | with_reducible refine ex_alloc ?_ _ | with_reducible refine ex_drew ?_ | ((with_reducible refine ex_setCell ?_ ?_ _); rotate_left; (first | omega | (focus (simp; done)) | (focus (simp; omega)))) | ((with_reducible refine ex_chg ?_ _ ?_); rotate_left; (first | assumption | (exact Hid.out (by assumption)))) | exact ex_over)), ⟨a7, c7, ⟨?_, ?_⟩, ?_⟩, ?_, ?_⟩
                  · rw [HW2.out, hL1]; exact bk_p3 A3.out n34 nl3
                  · rw [HW2.out, hL1]
                    refine Own.mono (bk_own AB.out (fun h => by have := (hlt7 _ h).1; have := hp34; omega) (fun h => by have := (hlt7 _ h).1; have := hp34; omega) (fun g hg hm => ?_)) hb4
                    have h1 := (hlt7 g hg).1
                    have h2 := hov g (by simpa using hm)
                    omega
                  · rw [HW2.out, hL1]
                    intro g hg hg'
                    have h1 := hlt7 g hg
                    rcases HV.out with h2 | ⟨g2, h2, h3⟩
                    · have h4 := hov g (by rw [← h2]; exact hg')
                      omega
                    · rw [h2] at hg'
                      have h4 : g2 = g := Option.some.inj hg'
                      have h5 : W7.heap.size ≤ g2 := by simp at h3; omega
                      omega
                  · rw [HW1.out]; exact bk_p4 A4.out n43 nl4
                  · rw [HW3.out]; exact HW.out
                case measure => simp [intOf]; omega
              exact M2.tree_no
            exact M2.tree_no
          exact M2.tree_no
        exact M2.tree_no
      refine M2.tree_e (k := 11) rfl ?_ ?_
      · go_wp2_with ((go_at_call 21; (with_reducible refine (HP.out _ (by repeat (first | with_reducible exact hsb | with_reducible refine Sl.over ?_ _ | with_reducible refine Sl.alloc ?_ _ | with_reducible refine Sl.drew ?_ | exact hsb)) (TabW.ov hT (by (try unfold Ov); repeat (first | with_reducible exact H0.out | with_reducible exact H0.out | with_reducible refine ex_undrew ?_ | with_reducible refine ex_into ?_ _ | with_reducible refine ex_alloc ?_ _ | with_reducible refine ex_drew ?_ | ((with_reducible refine ex_setCell ?_ ?_ _); rotate_left; (first | omega | (focus (simp; done)) | (focus (simp; omega)))) | ((with_reducible refine ex_chg ?_ _ ?_); rotate_left; (first | assumption | (exact Hid.out (by assumption)))) | exact ex_over)))).mono ?_); rintro _ _ ⟨a7, c7, rfl, ⟨e7, rfl⟩, ho7⟩; have HO7 := hid ho7; clear ho7))
        refine M2.TreeQ.mk (by (try unfold Ov); repeat (first | with_reducible exact ex_over | with_reducible exact over_self _ | with_reducible refine ex_undrew ?_ | with_reducible refine ex_into ?_ _ | with_reducible refine ex_alloc ?_ _ | with_reducible refine ex_drew ?_ | ((with_reducible refine ex_setCell ?_ ?_ _); rotate_left; (first | omega | (focus (simp; done)) | (focus (simp; omega)))) | ((with_reducible refine ex_chg ?_ _ ?_); rotate_left; (first | assumption | (exact Hid.out (by assumption)))) | exact ex_over)) ?_
        refine M2.tree_e (k := 6) rfl ?_ ?_
        · go_wp2_with ((go_at_call 21; (with_reducible refine (HP.out _ (by repeat (first | with_reducible exact hsb | with_reducible refine Sl.over ?_ _ | with_reducible refine Sl.alloc ?_ _ | with_reducible refine Sl.drew ?_ | exact hsb)) (TabW.ov hT (by (try unfold Ov); repeat (first | with_reducible exact H0.out | with_reducible exact H0.out | with_reducible refine ex_undrew ?_ | with_reducible refine ex_into ?_ _ | with_reducible refine ex_alloc ?_ _ | with_reducible refine ex_drew ?_ | ((with_reducible refine ex_setCell ?_ ?_ _); rotate_left; (first | omega | (focus (simp; done)) | (focus (simp; omega)))) | ((with_reducible refine ex_chg ?_ _ ?_); rotate_left; (first | assumption | (exact Hid.out (by assumption)))) | exact ex_over)))).mono ?_); rintro _ _ ⟨a7, c7, rfl, ⟨e7, rfl⟩, ho7⟩; have HO7 := hid ho7; clear ho7))
          refine M2.TreeQ.mk (by (try unfold Ov); repeat (first | with_reducible exact ex_over | with_reducible exact over_self _ | with_reducible refine ex_undrew ?_ | with_reducible refine ex_into ?_ _ | with_reducible refine ex_alloc ?_ _ | with_reducible refine ex_drew ?_ | ((with_reducible refine ex_setCell ?_ ?_ _); rotate_left; (first | omega | (focus (simp; done)) | (focus (simp; omega)))) | ((with_reducible refine ex_chg ?_ _ ?_); rotate_left; (first | assumption | (exact Hid.out (by assumption)))) | exact ex_over)) ?_
          refine M2.tree_q (k := 7) rfl rfl ?_
          go_big_quiet_step (fail)
          with_reducible refine wpQuiet_nil ?_
          refine M2.tree_q (k := 8) rfl rfl ?_
          go_big_quiet_step (fail)
          with_reducible refine wpQuiet_nil ?_
          refine M2.tree_q (k := 9) rfl rfl ?_
          go_big_quiet_step (fail)
          with_reducible refine wpQuiet_nil ?_
          refine M2.tree_q (k := 10) rfl rfl ?_
          go_big_quiet_step (fail)
          with_reducible refine wpQuiet_nil ?_
          refine M2.tree_e (k := 12) rfl ?_ ?_
          · go_wp2_with ((go_at_call 21; (with_reducible refine (HP.out _ (by repeat (first | with_reducible exact hsb | with_reducible refine Sl.over ?_ _ | with_reducible refine Sl.alloc ?_ _ | with_reducible refine Sl.drew ?_ | exact hsb)) (TabW.ov hT (by (try unfold Ov); repeat (first | with_reducible exact H0.out | with_reducible exact H0.out | with_reducible refine ex_undrew ?_ | with_reducible refine ex_into ?_ _ | with_reducible refine ex_alloc ?_ _ | with_reducible refine ex_drew ?_ | ((with_reducible refine ex_setCell ?_ ?_ _); rotate_left; (first | omega | (focus (simp; done)) | (focus (simp; omega)))) | ((with_reducible refine ex_chg ?_ _ ?_); rotate_left; (first | assumption | (exact Hid.out (by assumption)))) | exact ex_over)))).mono ?_); rintro _ _ ⟨a7, c7, rfl, ⟨e7, rfl⟩, ho7⟩; have HO7 := hid ho7; clear ho7))
            refine M2.TreeQ.mk (by (try unfold Ov); repeat (first | with_reducible exact ex_over | with_reducible exact over_self _ | with_reducible refine ex_undrew ?_ | with_reducible refine ex_into ?_ _ | with_reducible refine ex_alloc ?_ _ | with_reducible refine ex_drew ?_ | ((with_reducible refine ex_setCell ?_ ?_ _); rotate_left; (first | omega | (focus (simp; done)) | (focus (simp; omega)))) | ((with_reducible refine ex_chg ?_ _ ?_); rotate_left; (first | assumption | (exact Hid.out (by assumption)))) | exact ex_over)) ?_
            refine M2.tree_e (k := 13) rfl ?_ ?_
            · go_wp2_with ((go_at_call 21; (with_reducible refine (HP.out _ (by repeat (first | with_reducible exact hsb | with_reducible refine Sl.over ?_ _ | with_reducible refine Sl.alloc ?_ _ | with_reducible refine Sl.drew ?_ | exact hsb)) (TabW.ov hT (by (try unfold Ov); repeat (first | with_reducible exact H0.out | with_reducible exact H0.out | with_reducible refine ex_undrew ?_ | with_reducible refine ex_into ?_ _ | with_reducible refine ex_alloc ?_ _ | with_reducible refine ex_drew ?_ | ((with_reducible refine ex_setCell ?_ ?_ _); rotate_left; (first | omega | (focus (simp; done)) | (focus (simp; omega)))) | ((with_reducible refine ex_chg ?_ _ ?_); rotate_left; (first | assumption | (exact Hid.out (by assumption)))) | exact ex_over)))).mono ?_); rintro _ _ ⟨a7, c7, rfl, ⟨e7, rfl⟩, ho7⟩; have HO7 := hid ho7; clear ho7))
              refine M2.TreeQ.mk (by (try unfold Ov); repeat (first | with_reducible exact ex_over | with_reducible exact over_self _ | with_reducible refine ex_undrew ?_ | with_reducible refine ex_into ?_ _ | with_reducible refine ex_alloc ?_ _ | with_reducible refine ex_drew ?_ | ((with_reducible refine ex_setCell ?_ ?_ _); rotate_left; (first | omega | (focus (simp; done)) | (focus (simp; omega)))) | ((with_reducible refine ex_chg ?_ _ ?_); rotate_left; (first | assumption | (exact Hid.out (by assumption)))) | exact ex_over)) ?_
              refine M2.tree_e (k := 14) rfl ?_ ?_
              · go_wp2_with ((go_at_call 21; (with_reducible refine (HP.out _ (by repeat (first | with_reducible exact hsb | with_reducible refine Sl.over ?_ _ | with_reducible refine Sl.alloc ?_ _ | with_reducible refine Sl.drew ?_ | exact hsb)) (TabW.ov hT (by (try unfold Ov); repeat (first | with_reducible exact H0.out | with_reducible exact H0.out | with_reducible refine ex_undrew ?_ | with_reducible refine ex_into ?_ _ | with_reducible refine ex_alloc ?_ _ | with_reducible refine ex_drew ?_ | ((with_reducible refine ex_setCell ?_ ?_ _); rotate_left; (first | omega | (focus (simp; done)) | (focus (simp; omega)))) | ((with_reducible refine ex_chg ?_ _ ?_); rotate_left; (first | assumption | (exact Hid.out (by assumption)))) | exact ex_over)))).mono ?_); rintro _ _ ⟨a7, c7, rfl, ⟨e7, rfl⟩, ho7⟩; have HO7 := hid ho7; clear ho7))
                refine M2.TreeQ.mk (by (try unfold Ov); repeat (first | with_reducible exact ex_over | with_reducible exact over_self _ | with_reducible refine ex_undrew ?_ | with_reducible refine ex_into ?_ _ | with_reducible refine ex_alloc ?_ _ | with_reducible refine ex_drew ?_ | ((with_reducible refine ex_setCell ?_ ?_ _); rotate_left; (first | omega | (focus (simp; done)) | (focus (simp; omega)))) | ((with_reducible refine ex_chg ?_ _ ?_); rotate_left; (first | assumption | (exact Hid.out (by assumption)))) | exact ex_over)) ?_
                refine M2.tree_q (k := 15) rfl rfl ?_
                go_big_quiet_step (fail)
                with_reducible refine wpQuiet_nil ?_
                refine M2.tree_done ?_
                refine gen_w ?_
                intro W7 hW7
                have O7 : Hid (∃ e, W7 = over w e) := hid (by rw [hW7]; exact (by (try unfold Ov); repeat (first | with_reducible exact H0.out | with_reducible exact H0.out | with_reducible refine ex_undrew ?_ | with_reducible refine ex_into ?_ _ | with_reducible refine ex_alloc ?_ _ | with_reducible refine ex_drew ?_ | ((with_reducible refine ex_setCell ?_ ?_ _); rotate_left; (first | omega | (focus (simp; done)) | (focus (simp; omega)))) | ((with_reducible refine ex_chg ?_ _ ?_); rotate_left; (first | assumption | (exact Hid.out (by assumption)))) | exact ex_over)))
                have A3 : Hid (Blk W7 p3 [.slice a3 (pack L).length c3, .int .i64 (L.length : Nat)] 29) := hid (by rw [hW7]; exact (by repeat (first | with_reducible exact HB3.out | with_reducible refine Blk.alloc ?_ _ | with_reducible refine Blk.drew ?_ | with_reducible refine Blk.on ?_ _ | ((with_reducible refine Blk.chg ?_ (chg_chg _ _ _) ?_); rotate_left; (first | assumption | (focus (simp; done)) | (focus (simp; omega)))) | with_reducible refine Blk.set ?_ _ _ | ((with_reducible refine Blk.set_ne ?_ ?_ _); rotate_left; (first | assumption | (focus (simp; done)) | (focus (simp; omega)))))))
                have A4 : Hid (Blk W7 p4 t.cs 24) := hid (by rw [hW7]; exact (by repeat (first | with_reducible exact HB4.out | with_reducible refine Blk.alloc ?_ _ | with_reducible refine Blk.drew ?_ | with_reducible refine Blk.on ?_ _ | ((with_reducible refine Blk.chg ?_ (chg_chg _ _ _) ?_); rotate_left; (first | assumption | (focus (simp; done)) | (focus (simp; omega)))) | with_reducible refine Blk.set ?_ _ _ | ((with_reducible refine Blk.set_ne ?_ ?_ _); rotate_left; (first | assumption | (focus (simp; done)) | (focus (simp; omega)))))))
                have A7 : Hid (Blk W7 (wr.heap.size) [.slice a7 (pack L').length c7, .int .i64 (L'.length : Nat)] 29) := hid (by rw [hW7]; exact (by repeat (first | exact Blk.new' (by simp; done) | exact Blk.new' rfl | with_reducible assumption | with_reducible refine Blk.alloc ?_ _ | with_reducible refine Blk.drew ?_ | with_reducible refine Blk.on ?_ _ | ((with_reducible refine Blk.chg ?_ (chg_chg _ _ _) ?_); rotate_left; (first | assumption | (focus (simp; done)) | (focus (simp; omega)))))))
                have A8 : Hid (Blk W7 (wr.heap.size + 1 + e7.heap.size) t'.cs 24) := hid (by rw [hW7]; exact (by repeat (first | exact Blk.new' (by simp; done) | exact Blk.new' rfl | with_reducible assumption | with_reducible refine Blk.alloc ?_ _ | with_reducible refine Blk.drew ?_ | with_reducible refine Blk.on ?_ _ | ((with_reducible refine Blk.chg ?_ (chg_chg _ _ _) ?_); rotate_left; (first | assumption | (focus (simp; done)) | (focus (simp; omega)))))))
                have AL : Hid (OwnV (p4 + 1) W7 o KS) := hid (by rw [hW7]; exact (by repeat (first | with_reducible exact HAL.out | ((with_reducible refine Own.set_ne ?_ ?_ _); rotate_left; (first | assumption | (focus (simp; done)) | (focus (simp [Value.ownBlock]; done)) | (focus (simp [Value.ownBlock]; omega)))) | ((with_reducible refine Own.in_some ?_ _ ?_); rotate_left; (first | assumption | (focus (simp; done)) | (focus (simp; omega)))) | ((with_reducible refine Own.in_one ?_ _ ?_); rotate_left; (first | assumption | (focus (simp [Value.ownBlock]; done)) | (focus (simp [Value.ownBlock]; omega)))) | ((with_reducible refine Own.chg ?_ (chg_chg _ _ _) ?_); rotate_left; (first | assumption | (focus (simp; done)) | (focus (simp; omega)))) | with_reducible refine Own.over ?_ _ | with_reducible refine Own.alloc ?_ _ | with_reducible refine Own.drew ?_ | exact HAL.out)))
                have AB : Hid (OwnB wr.heap.size W7 (.slice a7 (pack L').length c7) (pack L')) := hid (by rw [hW7]; (repeat (first | with_reducible refine Own.alloc ?_ _ | with_reducible refine Own.drew ?_)); exact Own.mono (Own.over_swap HO7.out (by first | exact Nat.le_refl _ | rfl | omega | (simp; done) | (simp; omega)) (by first | exact Nat.le_refl _ | rfl | omega | (simp; done) | (simp; omega))) (by first | exact Nat.le_refl _ | rfl | omega | (simp; done) | (simp; omega)))
                have hwW : wr.heap.size ≤ W7.heap.size := by rw [hW7]; simp; try omega
                clear hW7
                have n73 : ¬ ((wr.heap.size) = p3) := by omega
                have n74 : ¬ ((wr.heap.size) = p4) := by omega
                have n83 : ¬ ((wr.heap.size + 1 + e7.heap.size) = p3) := by omega
                have n84 : ¬ ((wr.heap.size + 1 + e7.heap.size) = p4) := by omega
                have n37 : ¬ (p3 = (wr.heap.size)) := by omega
                have n38 : ¬ (p3 = (wr.heap.size + 1 + e7.heap.size)) := by omega
                have n47 : ¬ (p4 = (wr.heap.size)) := by omega
                have n48 : ¬ (p4 = (wr.heap.size + 1 + e7.heap.size)) := by omega
                obtain ⟨p7, hp7⟩ : ∃ p, p = (wr.heap.size) := ⟨_, rfl⟩
                obtain ⟨p8, hp8⟩ : ∃ p, p = (wr.heap.size + 1 + e7.heap.size) := ⟨_, rfl⟩
                first
                  | (rw [← hp8] at A8 n83 n84 n38 n48 ⊢; rw [← hp7] at A7 n73 n74 n37 n47 ⊢)
                  | (rw [← hp7] at A7 n73 n74 n37 n47 ⊢; rw [← hp8] at A8 n83 n84 n38 n48 ⊢)
                clear hp7 hp8
                clear m31 m32 m33 m34 m41 m42 m43 m44 r30 r31 g30 g31 l3 r40 r41 r42 r43 g40 g41 g42 g43 l4 hsb
                have r30 := A3.out.cell 0 rfl
                have r31 := A3.out.cell 1 rfl
                have g30 := A3.out.free 0
                have g31 := A3.out.free 1
                have l3 := A3.out.lt
                have r40 := A4.out.cell 0 rfl
                have r41 := A4.out.cell 1 rfl
                have r42 := A4.out.cell 2 rfl
                have r43 := A4.out.cell 3 rfl
                have g40 := A4.out.free 0
                have g41 := A4.out.free 1
                have g42 := A4.out.free 2
                have g43 := A4.out.free 3
                have l4 := A4.out.lt
                have r70 := A7.out.cell 0 rfl
                have r71 := A7.out.cell 1 rfl
                have l7 := A7.out.lt
                have r80 := A8.out.cell 0 rfl
                have r81 := A8.out.cell 1 rfl
                have r82 := A8.out.cell 2 rfl
                have r83 := A8.out.cell 3 rfl
                have l8 := A8.out.lt
                go_wp2_with (first | (go_at_call 19; (with_reducible refine (HS.out _).mono ?_); rintro _ _ ⟨⟨e8, rfl⟩, rfl⟩) | (at_builtin; refine wpList_append' val_elem Vl.cs_len Vl.cs_one rfl (.tmp 53) (.tmp 55) rfl (base := p4 + 1) (v := o) (ys := KS) (xs := [t']) (by repeat (first | with_reducible exact AL.out | ((with_reducible refine Own.set_ne ?_ ?_ _); rotate_left; (first | assumption | (focus (simp; done)) | (focus (simp [Value.ownBlock]; done)) | (focus (simp [Value.ownBlock]; omega)))) | ((with_reducible refine Own.in_some ?_ _ ?_); rotate_left; (first | assumption | (focus (simp; done)) | (focus (simp; omega)))) | ((with_reducible refine Own.in_one ?_ _ ?_); rotate_left; (first | assumption | (focus (simp [Value.ownBlock]; done)) | (focus (simp [Value.ownBlock]; omega)))) | ((with_reducible refine Own.chg ?_ (chg_chg _ _ _) ?_); rotate_left; (first | assumption | (focus (simp; done)) | (focus (simp; omega)))) | with_reducible refine Own.over ?_ _ | with_reducible refine Own.alloc ?_ _ | with_reducible refine Own.drew ?_ | exact AL.out)) rfl rfl (by first | exact Nat.le_refl _ | rfl | omega | (simp; done) | (simp; omega)) (by (repeat with_reducible refine Sl.drew ?_); exact Sl.one_new (y := t') (by simp; try omega)) (by simp only [List.length_append, List.length_singleton]; unfold maxLen; omega) (by simp only [List.length_append, List.length_singleton]; omega) ?_; intro v' m hown' hv'; have HV := hid hv'; have HW := hid hown'; clear hv' hown'))
                go_roundw
                case rel =>
                  have hL1 := HL'.out
                  have hb4 : p4 + 1 ≤ wr.heap.size := hb4'.out
                  have hlt7 : ∀ g, (Value.slice a7 (pack L').length c7).ownBlock = some g → wr.heap.size ≤ g ∧ g < W7.heap.size := fun g hg => Own.lt AB.out hg
                  have hov : ∀ g, o.ownBlock = some g → g < wr.heap.size := fun g hg => (Own.lt HAL.out hg).2
                  refine ⟨k + 1, v', by omega, by go_num, rfl, ?_⟩
                  refine ⟨(by (try unfold Ov); repeat (first | with_reducible exact O7.out | with_reducible exact O7.out | with_reducible refine ex_undrew ?_ | with_reducible refine ex_into ?_ _ | with_reducible refine ex_alloc ?_ _ | with_reducible refine ex_drew ?_ | ((with_reducible refine ex_setCell ?_ ?_ _); rotate_left; (first | omega | (focus (simp; done)) | (focus (simp; omega)))) | ((with_reducible refine ex_chg ?_ _ ?_); rotate_left; (first | assumption | (exact Hid.out (by assumption)))) | exact ex_over)), ⟨a7, c7, ⟨?_, ?_⟩, ?_⟩, ?_, ?_⟩
                  · rw [HW2.out, hL1]; exact bk_p3 A3.out n34 nl3
                  · rw [HW2.out, hL1]
                    refine Own.mono (bk_own AB.out (fun h => by have := (hlt7 _ h).1; have := hp34; omega) (fun h => by have := (hlt7 _ h).1; have := hp34; omega) (fun g hg hm => ?_)) hb4
                    have h1 := (hlt7 g hg).1
                    have h2 := hov g (by simpa using hm)
                    omega
                  · rw [HW2.out, hL1]
                    intro g hg hg'
                    have h1 := hlt7 g hg
                    rcases HV.out with h2 | ⟨g2, h2, h3⟩
                    · have h4 := hov g (by rw [← h2]; exact hg')
                      omega
                    · rw [h2] at hg'
                      have h4 : g2 = g := Option.some.inj hg'
                      have h5 : W7.heap.size ≤ g2 := by simp at h3; omega
                      omega
                  · rw [HW1.out]; exact bk_p4 A4.out n43 nl4
                  · rw [HW3.out]; exact HW.out
                case measure => simp [intOf]; omega
              exact M2.tree_no
            exact M2.tree_no
          exact M2.tree_no
        refine M2.tree_e (k := 12) rfl ?_ ?_
        · go_wp2_with ((go_at_call 21; (with_reducible refine (HP.out _ (by repeat (first | with_reducible exact hsb | with_reducible refine Sl.over ?_ _ | with_reducible refine Sl.alloc ?_ _ | with_reducible refine Sl.drew ?_ | exact hsb)) (TabW.ov hT (by (try unfold Ov); repeat (first | with_reducible exact H0.out | with_reducible exact H0.out | with_reducible refine ex_undrew ?_ | with_reducible refine ex_into ?_ _ | with_reducible refine ex_alloc ?_ _ | with_reducible refine ex_drew ?_ | ((with_reducible refine ex_setCell ?_ ?_ _); rotate_left; (first | omega | (focus (simp; done)) | (focus (simp; omega)))) | ((with_reducible refine ex_chg ?_ _ ?_); rotate_left; (first | assumption | (exact Hid.out (by assumption)))) | exact ex_over)))).mono ?_); rintro _ _ ⟨a7, c7, rfl, ⟨e7, rfl⟩, ho7⟩; have HO7 := hid ho7; clear ho7))
          refine M2.TreeQ.mk (by (try unfold Ov); repeat (first | with_reducible exact ex_over | with_reducible exact over_self _ | with_reducible refine ex_undrew ?_ | with_reducible refine ex_into ?_ _ | with_reducible refine ex_alloc ?_ _ | with_reducible refine ex_drew ?_ | ((with_reducible refine ex_setCell ?_ ?_ _); rotate_left; (first | omega | (focus (simp; done)) | (focus (simp; omega)))) | ((with_reducible refine ex_chg ?_ _ ?_); rotate_left; (first | assumption | (exact Hid.out (by assumption)))) | exact ex_over)) ?_
          refine M2.tree_e (k := 6) rfl ?_ ?_
          · go_wp2_with ((go_at_call 21; (with_reducible refine (HP.out _ (by repeat (first | with_reducible exact hsb | with_reducible refine Sl.over ?_ _ | with_reducible refine Sl.alloc ?_ _ | with_reducible refine Sl.drew ?_ | exact hsb)) (TabW.ov hT (by (try unfold Ov); repeat (first | with_reducible exact H0.out | with_reducible exact H0.out | with_reducible refine ex_undrew ?_ | with_reducible refine ex_into ?_ _ | with_reducible refine ex_alloc ?_ _ | with_reducible refine ex_drew ?_ | ((with_reducible refine ex_setCell ?_ ?_ _); rotate_left; (first | omega | (focus (simp; done)) | (focus (simp; omega)))) | ((with_reducible refine ex_chg ?_ _ ?_); rotate_left; (first | assumption | (exact Hid.out (by assumption)))) | exact ex_over)))).mono ?_); rintro _ _ ⟨a7, c7, rfl, ⟨e7, rfl⟩, ho7⟩; have HO7 := hid ho7; clear ho7))
            refine M2.TreeQ.mk (by (try unfold Ov); repeat (first | with_reducible exact ex_over | with_reducible exact over_self _ | with_reducible refine ex_undrew ?_ | with_reducible refine ex_into ?_ _ | with_reducible refine ex_alloc ?_ _ | with_reducible refine ex_drew ?_ | ((with_reducible refine ex_setCell ?_ ?_ _); rotate_left; (first | omega | (focus (simp; done)) | (focus (simp; omega)))) | ((with_reducible refine ex_chg ?_ _ ?_); rotate_left; (first | assumption | (exact Hid.out (by assumption)))) | exact ex_over)) ?_
            refine M2.tree_q (k := 7) rfl rfl ?_
            go_big_quiet_step (fail)
            with_reducible refine wpQuiet_nil ?_
            refine M2.tree_q (k := 8) rfl rfl ?_
            go_big_quiet_step (fail)
            with_reducible refine wpQuiet_nil ?_
            refine M2.tree_q (k := 9) rfl rfl ?_
            go_big_quiet_step (fail)
            with_reducible refine wpQuiet_nil ?_
            refine M2.tree_q (k := 10) rfl rfl ?_
            go_big_quiet_step (fail)
            with_reducible refine wpQuiet_nil ?_
            refine M2.tree_e (k := 13) rfl ?_ ?_
            · go_wp2_with ((go_at_call 21; (with_reducible refine (HP.out _ (by repeat (first | with_reducible exact hsb | with_reducible refine Sl.over ?_ _ | with_reducible refine Sl.alloc ?_ _ | with_reducible refine Sl.drew ?_ | exact hsb)) (TabW.ov hT (by (try unfold Ov); repeat (first | with_reducible exact H0.out | with_reducible exact H0.out | with_reducible refine ex_undrew ?_ | with_reducible refine ex_into ?_ _ | with_reducible refine ex_alloc ?_ _ | with_reducible refine ex_drew ?_ | ((with_reducible refine ex_setCell ?_ ?_ _); rotate_left; (first | omega | (focus (simp; done)) | (focus (simp; omega)))) | ((with_reducible refine ex_chg ?_ _ ?_); rotate_left; (first | assumption | (exact Hid.out (by assumption)))) | exact ex_over)))).mono ?_); rintro _ _ ⟨a7, c7, rfl, ⟨e7, rfl⟩, ho7⟩; have HO7 := hid ho7; clear ho7))
              refine M2.TreeQ.mk (by (try unfold Ov); repeat (first | with_reducible exact ex_over | with_reducible exact over_self _ | with_reducible refine ex_undrew ?_ | with_reducible refine ex_into ?_ _ | with_reducible refine ex_alloc ?_ _ | with_reducible refine ex_drew ?_ | ((with_reducible refine ex_setCell ?_ ?_ _); rotate_left; (first | omega | (focus (simp; done)) | (focus (simp; omega)))) | ((with_reducible refine ex_chg ?_ _ ?_); rotate_left; (first | assumption | (exact Hid.out (by assumption)))) | exact ex_over)) ?_
              refine M2.tree_e (k := 14) rfl ?_ ?_
              · go_wp2_with ((go_at_call 21; (with_reducible refine (HP.out _ (by repeat (first | with_reducible exact hsb | with_reducible refine Sl.over ?_ _ | with_reducible refine Sl.alloc ?_ _ | with_reducible refine Sl.drew ?_ | exact hsb)) (TabW.ov hT (by (try unfold Ov); repeat (first | with_reducible exact H0.out | with_reducible exact H0.out | with_reducible refine ex_undrew ?_ | with_reducible refine ex_into ?_ _ | with_reducible refine ex_alloc ?_ _ | with_reducible refine ex_drew ?_ | ((with_reducible refine ex_setCell ?_ ?_ _); rotate_left; (first | omega | (focus (simp; done)) | (focus (simp; omega)))) | ((with_reducible refine ex_chg ?_ _ ?_); rotate_left; (first | assumption | (exact Hid.out (by assumption)))) | exact ex_over)))).mono ?_); rintro _ _ ⟨a7, c7, rfl, ⟨e7, rfl⟩, ho7⟩; have HO7 := hid ho7; clear ho7))
                refine M2.TreeQ.mk (by (try unfold Ov); repeat (first | with_reducible exact ex_over | with_reducible exact over_self _ | with_reducible refine ex_undrew ?_ | with_reducible refine ex_into ?_ _ | with_reducible refine ex_alloc ?_ _ | with_reducible refine ex_drew ?_ | ((with_reducible refine ex_setCell ?_ ?_ _); rotate_left; (first | omega | (focus (simp; done)) | (focus (simp; omega)))) | ((with_reducible refine ex_chg ?_ _ ?_); rotate_left; (first | assumption | (exact Hid.out (by assumption)))) | exact ex_over)) ?_
                refine M2.tree_q (k := 15) rfl rfl ?_
                go_big_quiet_step (fail)
                with_reducible refine wpQuiet_nil ?_
                refine M2.tree_done ?_
                refine gen_w ?_
                intro W7 hW7
                have O7 : Hid (∃ e, W7 = over w e) := hid (by rw [hW7]; exact (by (try unfold Ov); repeat (first | with_reducible exact H0.out | with_reducible exact H0.out | with_reducible refine ex_undrew ?_ | with_reducible refine ex_into ?_ _ | with_reducible refine ex_alloc ?_ _ | with_reducible refine ex_drew ?_ | ((with_reducible refine ex_setCell ?_ ?_ _); rotate_left; (first | omega | (focus (simp; done)) | (focus (simp; omega)))) | ((with_reducible refine ex_chg ?_ _ ?_); rotate_left; (first | assumption | (exact Hid.out (by assumption)))) | exact ex_over)))
                have A3 : Hid (Blk W7 p3 [.slice a3 (pack L).length c3, .int .i64 (L.length : Nat)] 29) := hid (by rw [hW7]; exact (by repeat (first | with_reducible exact HB3.out | with_reducible refine Blk.alloc ?_ _ | with_reducible refine Blk.drew ?_ | with_reducible refine Blk.on ?_ _ | ((with_reducible refine Blk.chg ?_ (chg_chg _ _ _) ?_); rotate_left; (first | assumption | (focus (simp; done)) | (focus (simp; omega)))) | with_reducible refine Blk.set ?_ _ _ | ((with_reducible refine Blk.set_ne ?_ ?_ _); rotate_left; (first | assumption | (focus (simp; done)) | (focus (simp; omega)))))))
                have A4 : Hid (Blk W7 p4 t.cs 24) := hid (by rw [hW7]; exact (by repeat (first | with_reducible exact HB4.out | with_reducible refine Blk.alloc ?_ _ | with_reducible refine Blk.drew ?_ | with_reducible refine Blk.on ?_ _ | ((with_reducible refine Blk.chg ?_ (chg_chg _ _ _) ?_); rotate_left; (first | assumption | (focus (simp; done)) | (focus (simp; omega)))) | with_reducible refine Blk.set ?_ _ _ | ((with_reducible refine Blk.set_ne ?_ ?_ _); rotate_left; (first | assumption | (focus (simp; done)) | (focus (simp; omega)))))))
                have A7 : Hid (Blk W7 (wr.heap.size) [.slice a7 (pack L').length c7, .int .i64 (L'.length : Nat)] 29) := hid (by rw [hW7]; exact (by repeat (first | exact Blk.new' (by simp; done) | exact Blk.new' rfl | with_reducible assumption | with_reducible refine Blk.alloc ?_ _ | with_reducible refine Blk.drew ?_ | with_reducible refine Blk.on ?_ _ | ((with_reducible refine Blk.chg ?_ (chg_chg _ _ _) ?_); rotate_left; (first | assumption | (focus (simp; done)) | (focus (simp; omega)))))))
                have A8 : Hid (Blk W7 (wr.heap.size + 1) t'.cs 24) := hid (by rw [hW7]; exact (by repeat (first | exact Blk.new' (by simp; done) | exact Blk.new' rfl | with_reducible assumption | with_reducible refine Blk.alloc ?_ _ | with_reducible refine Blk.drew ?_ | with_reducible refine Blk.on ?_ _ | ((with_reducible refine Blk.chg ?_ (chg_chg _ _ _) ?_); rotate_left; (first | assumption | (focus (simp; done)) | (focus (simp; omega)))))))
                have AL : Hid (OwnV (p4 + 1) W7 o KS) := hid (by rw [hW7]; exact (by repeat (first | with_reducible exact HAL.out | ((with_reducible refine Own.set_ne ?_ ?_ _); rotate_left; (first | assumption | (focus (simp; done)) | (focus (simp [Value.ownBlock]; done)) | (focus (simp [Value.ownBlock]; omega)))) | ((with_reducible refine Own.in_some ?_ _ ?_); rotate_left; (first | assumption | (focus (simp; done)) | (focus (simp; omega)))) | ((with_reducible refine Own.in_one ?_ _ ?_); rotate_left; (first | assumption | (focus (simp [Value.ownBlock]; done)) | (focus (simp [Value.ownBlock]; omega)))) | ((with_reducible refine Own.chg ?_ (chg_chg _ _ _) ?_); rotate_left; (first | assumption | (focus (simp; done)) | (focus (simp; omega)))) | with_reducible refine Own.over ?_ _ | with_reducible refine Own.alloc ?_ _ | with_reducible refine Own.drew ?_ | exact HAL.out)))
                have AB : Hid (OwnB wr.heap.size W7 (.slice a7 (pack L').length c7) (pack L')) := hid (by rw [hW7]; (repeat (first | with_reducible refine Own.alloc ?_ _ | with_reducible refine Own.drew ?_)); exact Own.mono (Own.over_swap HO7.out (by first | exact Nat.le_refl _ | rfl | omega | (simp; done) | (simp; omega)) (by first | exact Nat.le_refl _ | rfl | omega | (simp; done) | (simp; omega))) (by first | exact Nat.le_refl _ | rfl | omega | (simp; done) | (simp; omega)))
                have hwW : wr.heap.size ≤ W7.heap.size := by rw [hW7]; simp; try omega
                clear hW7
                have n73 : ¬ ((wr.heap.size) = p3) := by omega
                have n74 : ¬ ((wr.heap.size) = p4) := by omega
                have n83 : ¬ ((wr.heap.size + 1) = p3) := by omega
                have n84 : ¬ ((wr.heap.size + 1) = p4) := by omega
                have n37 : ¬ (p3 = (wr.heap.size)) := by omega
                have n38 : ¬ (p3 = (wr.heap.size + 1)) := by omega
                have n47 : ¬ (p4 = (wr.heap.size)) := by omega
                have n48 : ¬ (p4 = (wr.heap.size + 1)) := by omega
                obtain ⟨p7, hp7⟩ : ∃ p, p = (wr.heap.size) := ⟨_, rfl⟩
                obtain ⟨p8, hp8⟩ : ∃ p, p = (wr.heap.size + 1) := ⟨_, rfl⟩
                first
                  | (rw [← hp8] at A8 n83 n84 n38 n48 ⊢; rw [← hp7] at A7 n73 n74 n37 n47 ⊢)
                  | (rw [← hp7] at A7 n73 n74 n37 n47 ⊢; rw [← hp8] at A8 n83 n84 n38 n48 ⊢)
                clear hp7 hp8
                clear m31 m32 m33 m34 m41 m42 m43 m44 r30 r31 g30 g31 l3 r40 r41 r42 r43 g40 g41 g42 g43 l4 hsb
                have r30 := A3.out.cell 0 rfl
                have r31 := A3.out.cell 1 rfl
                have g30 := A3.out.free 0
                have g31 := A3.out.free 1
                have l3 := A3.out.lt
                have r40 := A4.out.cell 0 rfl
                have r41 := A4.out.cell 1 rfl
                have r42 := A4.out.cell 2 rfl
                have r43 := A4.out.cell 3 rfl
                have g40 := A4.out.free 0
                have g41 := A4.out.free 1
                have g42 := A4.out.free 2
                have g43 := A4.out.free 3
                have l4 := A4.out.lt
                have r70 := A7.out.cell 0 rfl
                have r71 := A7.out.cell 1 rfl
                have l7 := A7.out.lt
                have r80 := A8.out.cell 0 rfl
                have r81 := A8.out.cell 1 rfl
                have r82 := A8.out.cell 2 rfl
                have r83 := A8.out.cell 3 rfl
                have l8 := A8.out.lt
                go_wp2_with (first | (go_at_call 19; (with_reducible refine (HS.out _).mono ?_); rintro _ _ ⟨⟨e8, rfl⟩, rfl⟩) | (at_builtin; refine wpList_append' val_elem Vl.cs_len Vl.cs_one rfl (.tmp 53) (.tmp 55) rfl (base := p4 + 1) (v := o) (ys := KS) (xs := [t']) (by repeat (first | with_reducible exact AL.out | ((with_reducible refine Own.set_ne ?_ ?_ _); rotate_left; (first | assumption | (focus (simp; done)) | (focus (simp [Value.ownBlock]; done)) | (focus (simp [Value.ownBlock]; omega)))) | ((with_reducible refine Own.in_some ?_ _ ?_); rotate_left; (first | assumption | (focus (simp; done)) | (focus (simp; omega)))) | ((with_reducible refine Own.in_one ?_ _ ?_); rotate_left; (first | assumption | (focus (simp [Value.ownBlock]; done)) | (focus (simp [Value.ownBlock]; omega)))) | ((with_reducible refine Own.chg ?_ (chg_chg _ _ _) ?_); rotate_left; (first | assumption | (focus (simp; done)) | (focus (simp; omega)))) | with_reducible refine Own.over ?_ _ | with_reducible refine Own.alloc ?_ _ | with_reducible refine Own.drew ?_ | exact AL.out)) rfl rfl (by first | exact Nat.le_refl _ | rfl | omega | (simp; done) | (simp; omega)) (by (repeat with_reducible refine Sl.drew ?_); exact Sl.one_new (y := t') (by simp; try omega)) (by simp only [List.length_append, List.length_singleton]; unfold maxLen; omega) (by simp only [List.length_append, List.length_singleton]; omega) ?_; intro v' m hown' hv'; have HV := hid hv'; have HW := hid hown'; clear hv' hown'))
                go_roundw
                case rel =>
                  have hL1 := HL'.out
                  have hb4 : p4 + 1 ≤ wr.heap.size := hb4'.out
                  have hlt7 : ∀ g, (Value.slice a7 (pack L').length c7).ownBlock = some g → wr.heap.size ≤ g ∧ g < W7.heap.size := fun g hg => Own.lt AB.out hg
                  have hov : ∀ g, o.ownBlock = some g → g < wr.heap.size := fun g hg => (Own.lt HAL.out hg).2
                  refine ⟨k + 1, v', by omega, by go_num, rfl, ?_⟩
                  refine ⟨(by (try unfold Ov); repeat (first | with_reducible exact O7.out | with_reducible exact O7.out | with_reducible refine ex_undrew ?_ | with_reducible refine ex_into ?_ _ | with_reducible refine ex_alloc ?_ _ | with_reducible refine ex_drew ?_ | ((with_reducible refine ex_setCell ?_ ?_ _); rotate_left; (first | omega | (focus (simp; done)) | (focus (simp; omega)))) | ((with_reducible refine ex_chg ?_ _ ?_); rotate_left; (first | assumption | (exact Hid.out (by assumption)))) | exact ex_over)), ⟨a7, c7, ⟨?_, ?_⟩, ?_⟩, ?_, ?_⟩
                  · rw [HW2.out, hL1]; exact bk_p3 A3.out n34 nl3
                  · rw [HW2.out, hL1]
                    refine Own.mono (bk_own AB.out (fun h => by have := (hlt7 _ h).1; have := hp34; omega) (fun h => by have := (hlt7 _ h).1; have := hp34; omega) (fun g hg hm => ?_)) hb4
                    have h1 := (hlt7 g hg).1
                    have h2 := hov g (by simpa using hm)
                    omega
                  · rw [HW2.out, hL1]
                    intro g hg hg'
                    have h1 := hlt7 g hg
                    rcases HV.out with h2 | ⟨g2, h2, h3⟩
                    · have h4 := hov g (by rw [← h2]; exact hg')
                      omega
                    · rw [h2] at hg'
                      have h4 : g2 = g := Option.some.inj hg'
                      have h5 : W7.heap.size ≤ g2 := by simp at h3; omega
                      omega
                  · rw [HW1.out]; exact bk_p4 A4.out n43 nl4
                  · rw [HW3.out]; exact HW.out
                case measure => simp [intOf]; omega
              exact M2.tree_no
            exact M2.tree_no
          exact M2.tree_no
        exact M2.tree_no
      refine M2.tree_e (k := 12) rfl ?_ ?_
      · go_wp2_with ((go_at_call 21; (with_reducible refine (HP.out _ (by repeat (first | with_reducible exact hsb | with_reducible refine Sl.over ?_ _ | with_reducible refine Sl.alloc ?_ _ | with_reducible refine Sl.drew ?_ | exact hsb)) (TabW.ov hT (by (try unfold Ov); repeat (first | with_reducible exact H0.out | with_reducible exact H0.out | with_reducible refine ex_undrew ?_ | with_reducible refine ex_into ?_ _ | with_reducible refine ex_alloc ?_ _ | with_reducible refine ex_drew ?_ | ((with_reducible refine ex_setCell ?_ ?_ _); rotate_left; (first | omega | (focus (simp; done)) | (focus (simp; omega)))) | ((with_reducible refine ex_chg ?_ _ ?_); rotate_left; (first | assumption | (exact Hid.out (by assumption)))) | exact ex_over)))).mono ?_); rintro _ _ ⟨a7, c7, rfl, ⟨e7, rfl⟩, ho7⟩; have HO7 := hid ho7; clear ho7))
        refine M2.TreeQ.mk (by (try unfold Ov); repeat (first | with_reducible exact ex_over | with_reducible exact over_self _ | with_reducible refine ex_undrew ?_ | with_reducible refine ex_into ?_ _ | with_reducible refine ex_alloc ?_ _ | with_reducible refine ex_drew ?_ | ((with_reducible refine ex_setCell ?_ ?_ _); rotate_left; (first | omega | (focus (simp; done)) | (focus (simp; omega)))) | ((with_reducible refine ex_chg ?_ _ ?_); rotate_left; (first | assumption | (exact Hid.out (by assumption)))) | exact ex_over)) ?_
        refine M2.tree_e (k := 6) rfl ?_ ?_
        · go_wp2_with ((go_at_call 21; (with_reducible refine (HP.out _ (by repeat (first | with_reducible exact hsb | with_reducible refine Sl.over ?_ _ | with_reducible refine Sl.alloc ?_ _ | with_reducible refine Sl.drew ?_ | exact hsb)) (TabW.ov hT (by (try unfold Ov); repeat (first | with_reducible exact H0.out | with_reducible exact H0.out | with_reducible refine ex_undrew ?_ | with_reducible refine ex_into ?_ _ | with_reducible refine ex_alloc ?_ _ | with_reducible refine ex_drew ?_ | ((with_reducible refine ex_setCell ?_ ?_ _); rotate_left; (first | omega | (focus (simp; done)) | (focus (simp; omega)))) | ((with_reducible refine ex_chg ?_ _ ?_); rotate_left; (first | assumption | (exact Hid.out (by assumption)))) | exact ex_over)))).mono ?_); rintro _ _ ⟨a7, c7, rfl, ⟨e7, rfl⟩, ho7⟩; have HO7 := hid ho7; clear ho7))
          refine M2.TreeQ.mk (by (try unfold Ov); repeat (first | with_reducible exact ex_over | with_reducible exact over_self _ | with_reducible refine ex_undrew ?_ | with_reducible refine ex_into ?_ _ | with_reducible refine ex_alloc ?_ _ | with_reducible refine ex_drew ?_ | ((with_reducible refine ex_setCell ?_ ?_ _); rotate_left; (first | omega | (focus (simp; done)) | (focus (simp; omega)))) | ((with_reducible refine ex_chg ?_ _ ?_); rotate_left; (first | assumption | (exact Hid.out (by assumption)))) | exact ex_over)) ?_
          refine M2.tree_q (k := 7) rfl rfl ?_
          go_big_quiet_step (fail)
          with_reducible refine wpQuiet_nil ?_
          refine M2.tree_q (k := 8) rfl rfl ?_
          go_big_quiet_step (fail)
          with_reducible refine wpQuiet_nil ?_
          refine M2.tree_q (k := 9) rfl rfl ?_
          go_big_quiet_step (fail)
          with_reducible refine wpQuiet_nil ?_
          refine M2.tree_q (k := 10) rfl rfl ?_
          go_big_quiet_step (fail)
          with_reducible refine wpQuiet_nil ?_
          refine M2.tree_e (k := 11) rfl ?_ ?_
          · go_wp2_with ((go_at_call 21; (with_reducible refine (HP.out _ (by repeat (first | with_reducible exact hsb | with_reducible refine Sl.over ?_ _ | with_reducible refine Sl.alloc ?_ _ | with_reducible refine Sl.drew ?_ | exact hsb)) (TabW.ov hT (by (try unfold Ov); repeat (first | with_reducible exact H0.out | with_reducible exact H0.out | with_reducible refine ex_undrew ?_ | with_reducible refine ex_into ?_ _ | with_reducible refine ex_alloc ?_ _ | with_reducible refine ex_drew ?_ | ((with_reducible refine ex_setCell ?_ ?_ _); rotate_left; (first | omega | (focus (simp; done)) | (focus (simp; omega)))) | ((with_reducible refine ex_chg ?_ _ ?_); rotate_left; (first | assumption | (exact Hid.out (by assumption)))) | exact ex_over)))).mono ?_); rintro _ _ ⟨a7, c7, rfl, ⟨e7, rfl⟩, ho7⟩; have HO7 := hid ho7; clear ho7))
            refine M2.TreeQ.mk (by (try unfold Ov); repeat (first | with_reducible exact ex_over | with_reducible exact over_self _ | with_reducible refine ex_undrew ?_ | with_reducible refine ex_into ?_ _ | with_reducible refine ex_alloc ?_ _ | with_reducible refine ex_drew ?_ | ((with_reducible refine ex_setCell ?_ ?_ _); rotate_left; (first | omega | (focus (simp; done)) | (focus (simp; omega)))) | ((with_reducible refine ex_chg ?_ _ ?_); rotate_left; (first | assumption | (exact Hid.out (by assumption)))) | exact ex_over)) ?_
            refine M2.tree_e (k := 13) rfl ?_ ?_
            · go_wp2_with ((go_at_call 21; (with_reducible refine (HP.out _ (by repeat (first | with_reducible exact hsb | with_reducible refine Sl.over ?_ _ | with_reducible refine Sl.alloc ?_ _ | with_reducible refine Sl.drew ?_ | exact hsb)) (TabW.ov hT (by (try unfold Ov); repeat (first | with_reducible exact H0.out | with_reducible exact H0.out | with_reducible refine ex_undrew ?_ | with_reducible refine ex_into ?_ _ | with_reducible refine ex_alloc ?_ _ | with_reducible refine ex_drew ?_ | ((with_reducible refine ex_setCell ?_ ?_ _); rotate_left; (first | omega | (focus (simp; done)) | (focus (simp; omega)))) | ((with_reducible refine ex_chg ?_ _ ?_); rotate_left; (first | assumption | (exact Hid.out (by assumption)))) | exact ex_over)))).mono ?_); rintro _ _ ⟨a7, c7, rfl, ⟨e7, rfl⟩, ho7⟩; have HO7 := hid ho7; clear ho7))
              refine M2.TreeQ.mk (by (try unfold Ov); repeat (first | with_reducible exact ex_over | with_reducible exact over_self _ | with_reducible refine ex_undrew ?_ | with_reducible refine ex_into ?_ _ | with_reducible refine ex_alloc ?_ _ | with_reducible refine ex_drew ?_ | ((with_reducible refine ex_setCell ?_ ?_ _); rotate_left; (first | omega | (focus (simp; done)) | (focus (simp; omega)))) | ((with_reducible refine ex_chg ?_ _ ?_); rotate_left; (first | assumption | (exact Hid.out (by assumption)))) | exact ex_over)) ?_
              refine M2.tree_e (k := 14) rfl ?_ ?_
              · go_wp2_with ((go_at_call 21; (with_reducible refine (HP.out _ (by repeat (first | with_reducible exact hsb | with_reducible refine Sl.over ?_ _ | with_reducible refine Sl.alloc ?_ _ | with_reducible refine Sl.drew ?_ | exact hsb)) (TabW.ov hT (by (try unfold Ov); repeat (first | with_reducible exact H0.out | with_reducible exact H0.out | with_reducible refine ex_undrew ?_ | with_reducible refine ex_into ?_ _ | with_reducible refine ex_alloc ?_ _ | with_reducible refine ex_drew ?_ | ((with_reducible refine ex_setCell ?_ ?_ _); rotate_left; (first | omega | (focus (simp; done)) | (focus (simp; omega)))) | ((with_reducible refine ex_chg ?_ _ ?_); rotate_left; (first | assumption | (exact Hid.out (by assumption)))) | exact ex_over)))).mono ?_); rintro _ _ ⟨a7, c7, rfl, ⟨e7, rfl⟩, ho7⟩; have HO7 := hid ho7; clear ho7))
                refine M2.TreeQ.mk (by (try unfold Ov); repeat (first | with_reducible exact ex_over | with_reducible exact over_self _ | with_reducible refine ex_undrew ?_ | with_reducible refine ex_into ?_ _ | with_reducible refine ex_alloc ?_ _ | with_reducible refine ex_drew ?_ | ((with_reducible refine ex_setCell ?_ ?_ _); rotate_left; (first | omega | (focus (simp; done)) | (focus (simp; omega)))) | ((with_reducible refine ex_chg ?_ _ ?_); rotate_left; (first | assumption | (exact Hid.out (by assumption)))) | exact ex_over)) ?_
                refine M2.tree_q (k := 15) rfl rfl ?_
                go_big_quiet_step (fail)
                with_reducible refine wpQuiet_nil ?_
                refine M2.tree_done ?_
                refine gen_w ?_
                intro W7 hW7
                have O7 : Hid (∃ e, W7 = over w e) := hid (by rw [hW7]; exact (by (try unfold Ov); repeat (first | with_reducible exact H0.out | with_reducible exact H0.out | with_reducible refine ex_undrew ?_ | with_reducible refine ex_into ?_ _ | with_reducible refine ex_alloc ?_ _ | with_reducible refine ex_drew ?_ | ((with_reducible refine ex_setCell ?_ ?_ _); rotate_left; (first | omega | (focus (simp; done)) | (focus (simp; omega)))) | ((with_reducible refine ex_chg ?_ _ ?_); rotate_left; (first | assumption | (exact Hid.out (by assumption)))) | exact ex_over)))
                have A3 : Hid (Blk W7 p3 [.slice a3 (pack L).length c3, .int .i64 (L.length : Nat)] 29) := hid (by rw [hW7]; exact (by repeat (first | with_reducible exact HB3.out | with_reducible refine Blk.alloc ?_ _ | with_reducible refine Blk.drew ?_ | with_reducible refine Blk.on ?_ _ | ((with_reducible refine Blk.chg ?_ (chg_chg _ _ _) ?_); rotate_left; (first | assumption | (focus (simp; done)) | (focus (simp; omega)))) | with_reducible refine Blk.set ?_ _ _ | ((with_reducible refine Blk.set_ne ?_ ?_ _); rotate_left; (first | assumption | (focus (simp; done)) | (focus (simp; omega)))))))
                have A4 : Hid (Blk W7 p4 t.cs 24) := hid (by rw [hW7]; exact (by repeat (first | with_reducible exact HB4.out | with_reducible refine Blk.alloc ?_ _ | with_reducible refine Blk.drew ?_ | with_reducible refine Blk.on ?_ _ | ((with_reducible refine Blk.chg ?_ (chg_chg _ _ _) ?_); rotate_left; (first | assumption | (focus (simp; done)) | (focus (simp; omega)))) | with_reducible refine Blk.set ?_ _ _ | ((with_reducible refine Blk.set_ne ?_ ?_ _); rotate_left; (first | assumption | (focus (simp; done)) | (focus (simp; omega)))))))
                have A7 : Hid (Blk W7 (wr.heap.size + 1 + e7.heap.size) [.slice a7 (pack L').length c7, .int .i64 (L'.length : Nat)] 29) := hid (by rw [hW7]; exact (by repeat (first | exact Blk.new' (by simp; done) | exact Blk.new' rfl | with_reducible assumption | with_reducible refine Blk.alloc ?_ _ | with_reducible refine Blk.drew ?_ | with_reducible refine Blk.on ?_ _ | ((with_reducible refine Blk.chg ?_ (chg_chg _ _ _) ?_); rotate_left; (first | assumption | (focus (simp; done)) | (focus (simp; omega)))))))
                have A8 : Hid (Blk W7 (wr.heap.size) t'.cs 24) := hid (by rw [hW7]; exact (by repeat (first | exact Blk.new' (by simp; done) | exact Blk.new' rfl | with_reducible assumption | with_reducible refine Blk.alloc ?_ _ | with_reducible refine Blk.drew ?_ | with_reducible refine Blk.on ?_ _ | ((with_reducible refine Blk.chg ?_ (chg_chg _ _ _) ?_); rotate_left; (first | assumption | (focus (simp; done)) | (focus (simp; omega)))))))
                have AL : Hid (OwnV (p4 + 1) W7 o KS) := hid (by rw [hW7]; exact (by repeat (first | with_reducible exact HAL.out | ((with_reducible refine Own.set_ne ?_ ?_ _); rotate_left; (first | assumption | (focus (simp; done)) | (focus (simp [Value.ownBlock]; done)) | (focus (simp [Value.ownBlock]; omega)))) | ((with_reducible refine Own.in_some ?_ _ ?_); rotate_left; (first | assumption | (focus (simp; done)) | (focus (simp; omega)))) | ((with_reducible refine Own.in_one ?_ _ ?_); rotate_left; (first | assumption | (focus (simp [Value.ownBlock]; done)) | (focus (simp [Value.ownBlock]; omega)))) | ((with_reducible refine Own.chg ?_ (chg_chg _ _ _) ?_); rotate_left; (first | assumption | (focus (simp; done)) | (focus (simp; omega)))) | with_reducible refine Own.over ?_ _ | with_reducible refine Own.alloc ?_ _ | with_reducible refine Own.drew ?_ | exact HAL.out)))
                have AB : Hid (OwnB wr.heap.size W7 (.slice a7 (pack L').length c7) (pack L')) := hid (by rw [hW7]; (repeat (first | with_reducible refine Own.alloc ?_ _ | with_reducible refine Own.drew ?_)); exact Own.mono (Own.over_swap HO7.out (by first | exact Nat.le_refl _ | rfl | omega | (simp; done) | (simp; omega)) (by first | exact Nat.le_refl _ | rfl | omega | (simp; done) | (simp; omega))) (by first | exact Nat.le_refl _ | rfl | omega | (simp; done) | (simp; omega)))
                have hwW : wr.heap.size ≤ W7.heap.size := by rw [hW7]; simp; try omega
                clear hW7
                have n73 : ¬ ((wr.heap.size + 1 + e7.heap.size) = p3) := by omega
                have n74 : ¬ ((wr.heap.size + 1 + e7.heap.size) = p4) := by omega
                have n83 : ¬ ((wr.heap.size) = p3) := by omega
                have n84 : ¬ ((wr.heap.size) = p4) := by omega
                have n37 : ¬ (p3 = (wr.heap.size + 1 + e7.heap.size)) := by omega
                have n38 : ¬ (p3 = (wr.heap.size)) := by omega
                have n47 : ¬ (p4 = (wr.heap.size + 1 + e7.heap.size)) := by omega
                have n48 : ¬ (p4 = (wr.heap.size)) := by omega
                obtain ⟨p7, hp7⟩ : ∃ p, p = (wr.heap.size + 1 + e7.heap.size) := ⟨_, rfl⟩
                obtain ⟨p8, hp8⟩ : ∃ p, p = (wr.heap.size) := ⟨_, rfl⟩
                first
                  | (rw [← hp8] at A8 n83 n84 n38 n48 ⊢; rw [← hp7] at A7 n73 n74 n37 n47 ⊢)
                  | (rw [← hp7] at A7 n73 n74 n37 n47 ⊢; rw [← hp8] at A8 n83 n84 n38 n48 ⊢)
                clear hp7 hp8
                clear m31 m32 m33 m34 m41 m42 m43 m44 r30 r31 g30 g31 l3 r40 r41 r42 r43 g40 g41 g42 g43 l4 hsb
                have r30 := A3.out.cell 0 rfl
                have r31 := A3.out.cell 1 rfl
                have g30 := A3.out.free 0
                have g31 := A3.out.free 1
                have l3 := A3.out.lt
                have r40 := A4.out.cell 0 rfl
                have r41 := A4.out.cell 1 rfl
                have r42 := A4.out.cell 2 rfl
                have r43 := A4.out.cell 3 rfl
                have g40 := A4.out.free 0
                have g41 := A4.out.free 1
                have g42 := A4.out.free 2
                have g43 := A4.out.free 3
                have l4 := A4.out.lt
                have r70 := A7.out.cell 0 rfl
                have r71 := A7.out.cell 1 rfl
                have l7 := A7.out.lt
                have r80 := A8.out.cell 0 rfl
                have r81 := A8.out.cell 1 rfl
                have r82 := A8.out.cell 2 rfl
                have r83 := A8.out.cell 3 rfl
                have l8 := A8.out.lt
                go_wp2_with (first | (go_at_call 19; (with_reducible refine (HS.out _).mono ?_); rintro _ _ ⟨⟨e8, rfl⟩, rfl⟩) | (at_builtin; refine wpList_append' val_elem Vl.cs_len Vl.cs_one rfl (.tmp 53) (.tmp 55) rfl (base := p4 + 1) (v := o) (ys := KS) (xs := [t']) (by repeat (first | with_reducible exact AL.out | ((with_reducible refine Own.set_ne ?_ ?_ _); rotate_left; (first | assumption | (focus (simp; done)) | (focus (simp [Value.ownBlock]; done)) | (focus (simp [Value.ownBlock]; omega)))) | ((with_reducible refine Own.in_some ?_ _ ?_); rotate_left; (first | assumption | (focus (simp; done)) | (focus (simp; omega)))) | ((with_reducible refine Own.in_one ?_ _ ?_); rotate_left; (first | assumption | (focus (simp [Value.ownBlock]; done)) | (focus (simp [Value.ownBlock]; omega)))) | ((with_reducible refine Own.chg ?_ (chg_chg _ _ _) ?_); rotate_left; (first | assumption | (focus (simp; done)) | (focus (simp; omega)))) | with_reducible refine Own.over ?_ _ | with_reducible refine Own.alloc ?_ _ | with_reducible refine Own.drew ?_ | exact AL.out)) rfl rfl (by first | exact Nat.le_refl _ | rfl | omega | (simp; done) | (simp; omega)) (by (repeat with_reducible refine Sl.drew ?_); exact Sl.one_new (y := t') (by simp; try omega)) (by simp only [List.length_append, List.length_singleton]; unfold maxLen; omega) (by simp only [List.length_append, List.length_singleton]; omega) ?_; intro v' m hown' hv'; have HV := hid hv'; have HW := hid hown'; clear hv' hown'))
                go_roundw
                case rel =>
                  have hL1 := HL'.out
                  have hb4 : p4 + 1 ≤ wr.heap.size := hb4'.out
                  have hlt7 : ∀ g, (Value.slice a7 (pack L').length c7).ownBlock = some g → wr.heap.size ≤ g ∧ g < W7.heap.size := fun g hg => Own.lt AB.out hg
                  have hov : ∀ g, o.ownBlock = some g → g < wr.heap.size := fun g hg => (Own.lt HAL.out hg).2
                  refine ⟨k + 1, v', by omega, by go_num, rfl, ?_⟩
                  refine ⟨(by (try unfold Ov); repeat (first | with_reducible exact O7.out | with_reducible exact O7.out | with_reducible refine ex_undrew ?_ | with_reducible refine ex_into ?_ _ | with_reducible refine ex_alloc ?_ _ | with_reducible refine ex_drew ?_ | ((with_reducible refine ex_setCell ?_ ?_ _); rotate_left; (first | omega | (focus (simp; done)) | (focus (simp; omega)))) | ((with_reducible refine ex_chg ?_ _ ?_); rotate_left; (first | assumption | (exact Hid.out (by assumption)))) | exact ex_over)), ⟨a7, c7, ⟨?_, ?_⟩, ?_⟩, ?_, ?_⟩
                  · rw [HW2.out, hL1]; exact bk_p3 A3.out n34 nl3
                  · rw [HW2.out, hL1]
                    refine Own.mono (bk_own AB.out (fun h => by have := (hlt7 _ h).1; have := hp34; omega) (fun h => by have := (hlt7 _ h).1; have := hp34; omega) (fun g hg hm => ?_)) hb4
                    have h1 := (hlt7 g hg).1
                    have h2 := hov g (by simpa using hm)
                    omega
                  · rw [HW2.out, hL1]
                    intro g hg hg'
                    have h1 := hlt7 g hg
                    rcases HV.out with h2 | ⟨g2, h2, h3⟩
                    · have h4 := hov g (by rw [← h2]; exact hg')
                      omega
                    · rw [h2] at hg'
                      have h4 : g2 = g := Option.some.inj hg'
                      have h5 : W7.heap.size ≤ g2 := by simp at h3; omega
                      omega
                  · rw [HW1.out]; exact bk_p4 A4.out n43 nl4
                  · rw [HW3.out]; exact HW.out
                case measure => simp [intOf]; omega
              exact M2.tree_no
            exact M2.tree_no
          exact M2.tree_no
        refine M2.tree_e (k := 11) rfl ?_ ?_
        · go_wp2_with ((go_at_call 21; (with_reducible refine (HP.out _ (by repeat (first | with_reducible exact hsb | with_reducible refine Sl.over ?_ _ | with_reducible refine Sl.alloc ?_ _ | with_reducible refine Sl.drew ?_ | exact hsb)) (TabW.ov hT (by (try unfold Ov); repeat (first | with_reducible exact H0.out | with_reducible exact H0.out | with_reducible refine ex_undrew ?_ | with_reducible refine ex_into ?_ _ | with_reducible refine ex_alloc ?_ _ | with_reducible refine ex_drew ?_ | ((with_reducible refine ex_setCell ?_ ?_ _); rotate_left; (first | omega | (focus (simp; done)) | (focus (simp; omega)))) | ((with_reducible refine ex_chg ?_ _ ?_); rotate_left; (first | assumption | (exact Hid.out (by assumption)))) | exact ex_over)))).mono ?_); rintro _ _ ⟨a7, c7, rfl, ⟨e7, rfl⟩, ho7⟩; have HO7 := hid ho7; clear ho7))
          refine M2.TreeQ.mk (by (try unfold Ov); repeat (first | with_reducible exact ex_over | with_reducible exact over_self _ | with_reducible refine ex_undrew ?_ | with_reducible refine ex_into ?_ _ | with_reducible refine ex_alloc ?_ _ | with_reducible refine ex_drew ?_ | ((with_reducible refine ex_setCell ?_ ?_ _); rotate_left; (first | omega | (focus (simp; done)) | (focus (simp; omega)))) | ((with_reducible refine ex_chg ?_ _ ?_); rotate_left; (first | assumption | (exact Hid.out (by assumption)))) | exact ex_over)) ?_
          refine M2.tree_e (k := 6) rfl ?_ ?_
          · go_wp2_with ((go_at_call 21; (with_reducible refine (HP.out _ (by repeat (first | with_reducible exact hsb | with_reducible refine Sl.over ?_ _ | with_reducible refine Sl.alloc ?_ _ | with_reducible refine Sl.drew ?_ | exact hsb)) (TabW.ov hT (by (try unfold Ov); repeat (first | with_reducible exact H0.out | with_reducible exact H0.out | with_reducible refine ex_undrew ?_ | with_reducible refine ex_into ?_ _ | with_reducible refine ex_alloc ?_ _ | with_reducible refine ex_drew ?_ | ((with_reducible refine ex_setCell ?_ ?_ _); rotate_left; (first | omega | (focus (simp; done)) | (focus (simp; omega)))) | ((with_reducible refine ex_chg ?_ _ ?_); rotate_left; (first | assumption | (exact Hid.out (by assumption)))) | exact ex_over)))).mono ?_); rintro _ _ ⟨a7, c7, rfl, ⟨e7, rfl⟩, ho7⟩; have HO7 := hid ho7; clear ho7))
            refine M2.TreeQ.mk (by (try unfold Ov); repeat (first | with_reducible exact ex_over | with_reducible exact over_self _ | with_reducible refine ex_undrew ?_ | with_reducible refine ex_into ?_ _ | with_reducible refine ex_alloc ?_ _ | with_reducible refine ex_drew ?_ | ((with_reducible refine ex_setCell ?_ ?_ _); rotate_left; (first | omega | (focus (simp; done)) | (focus (simp; omega)))) | ((with_reducible refine ex_chg ?_ _ ?_); rotate_left; (first | assumption | (exact Hid.out (by assumption)))) | exact ex_over)) ?_
            refine M2.tree_q (k := 7) rfl rfl ?_
            go_big_quiet_step (fail)
            with_reducible refine wpQuiet_nil ?_
            refine M2.tree_q (k := 8) rfl rfl ?_
            go_big_quiet_step (fail)
            with_reducible refine wpQuiet_nil ?_
            refine M2.tree_q (k := 9) rfl rfl ?_
            go_big_quiet_step (fail)
            with_reducible refine wpQuiet_nil ?_
            refine M2.tree_q (k := 10) rfl rfl ?_
            go_big_quiet_step (fail)
            with_reducible refine wpQuiet_nil ?_
            refine M2.tree_e (k := 13) rfl ?_ ?_
            · go_wp2_with ((go_at_call 21; (with_reducible refine (HP.out _ (by repeat (first | with_reducible exact hsb | with_reducible refine Sl.over ?_ _ | with_reducible refine Sl.alloc ?_ _ | with_reducible refine Sl.drew ?_ | exact hsb)) (TabW.ov hT (by (try unfold Ov); repeat (first | with_reducible exact H0.out | with_reducible exact H0.out | with_reducible refine ex_undrew ?_ | with_reducible refine ex_into ?_ _ | with_reducible refine ex_alloc ?_ _ | with_reducible refine ex_drew ?_ | ((with_reducible refine ex_setCell ?_ ?_ _); rotate_left; (first | omega | (focus (simp; done)) | (focus (simp; omega)))) | ((with_reducible refine ex_chg ?_ _ ?_); rotate_left; (first | assumption | (exact Hid.out (by assumption)))) | exact ex_over)))).mono ?_); rintro _ _ ⟨a7, c7, rfl, ⟨e7, rfl⟩, ho7⟩; have HO7 := hid ho7; clear ho7))
              refine M2.TreeQ.mk (by (try unfold Ov); repeat (first | with_reducible exact ex_over | with_reducible exact over_self _ | with_reducible refine ex_undrew ?_ | with_reducible refine ex_into ?_ _ | with_reducible refine ex_alloc ?_ _ | with_reducible refine ex_drew ?_ | ((with_reducible refine ex_setCell ?_ ?_ _); rotate_left; (first | omega | (focus (simp; done)) | (focus (simp; omega)))) | ((with_reducible refine ex_chg ?_ _ ?_); rotate_left; (first | assumption | (exact Hid.out (by assumption)))) | exact ex_over)) ?_
              refine M2.tree_e (k := 14) rfl ?_ ?_
              · go_wp2_with ((go_at_call 21; (with_reducible refine (HP.out _ (by repeat (first | with_reducible exact hsb | with_reducible refine Sl.over ?_ _ | with_reducible refine Sl.alloc ?_ _ | with_reducible refine Sl.drew ?_ | exact hsb)) (TabW.ov hT (by (try unfold Ov); repeat (first | with_reducible exact H0.out | with_reducible exact H0.out | with_reducible refine ex_undrew ?_ | with_reducible refine ex_into ?_ _ | with_reducible refine ex_alloc ?_ _ | with_reducible refine ex_drew ?_ | ((with_reducible refine ex_setCell ?_ ?_ _); rotate_left; (first | omega | (focus (simp; done)) | (focus (simp; omega)))) | ((with_reducible refine ex_chg ?_ _ ?_); rotate_left; (first | assumption | (exact Hid.out (by assumption)))) | exact ex_over)))).mono ?_); rintro _ _ ⟨a7, c7, rfl, ⟨e7, rfl⟩, ho7⟩; have HO7 := hid ho7; clear ho7))
                refine M2.TreeQ.mk (by (try unfold Ov); repeat (first | with_reducible exact ex_over | with_reducible exact over_self _ | with_reducible refine ex_undrew ?_ | with_reducible refine ex_into ?_ _ | with_reducible refine ex_alloc ?_ _ | with_reducible refine ex_drew ?_ | ((with_reducible refine ex_setCell ?_ ?_ _); rotate_left; (first | omega | (focus (simp; done)) | (focus (simp; omega)))) | ((with_reducible refine ex_chg ?_ _ ?_); rotate_left; (first | assumption | (exact Hid.out (by assumption)))) | exact ex_over)) ?_
                refine M2.tree_q (k := 15) rfl rfl ?_
                go_big_quiet_step (fail)
                with_reducible refine wpQuiet_nil ?_
                refine M2.tree_done ?_
                refine gen_w ?_
                intro W7 hW7
                have O7 : Hid (∃ e, W7 = over w e) := hid (by rw [hW7]; exact (by (try unfold Ov); repeat (first | with_reducible exact H0.out | with_reducible exact H0.out | with_reducible refine ex_undrew ?_ | with_reducible refine ex_into ?_ _ | with_reducible refine ex_alloc ?_ _ | with_reducible refine ex_drew ?_ | ((with_reducible refine ex_setCell ?_ ?_ _); rotate_left; (first | omega | (focus (simp; done)) | (focus (simp; omega)))) | ((with_reducible refine ex_chg ?_ _ ?_); rotate_left; (first | assumption | (exact Hid.out (by assumption)))) | exact ex_over)))
                have A3 : Hid (Blk W7 p3 [.slice a3 (pack L).length c3, .int .i64 (L.length : Nat)] 29) := hid (by rw [hW7]; exact (by repeat (first | with_reducible exact HB3.out | with_reducible refine Blk.alloc ?_ _ | with_reducible refine Blk.drew ?_ | with_reducible refine Blk.on ?_ _ | ((with_reducible refine Blk.chg ?_ (chg_chg _ _ _) ?_); rotate_left; (first | assumption | (focus (simp; done)) | (focus (simp; omega)))) | with_reducible refine Blk.set ?_ _ _ | ((with_reducible refine Blk.set_ne ?_ ?_ _); rotate_left; (first | assumption | (focus (simp; done)) | (focus (simp; omega)))))))
                have A4 : Hid (Blk W7 p4 t.cs 24) := hid (by rw [hW7]; exact (by repeat (first | with_reducible exact HB4.out | with_reducible refine Blk.alloc ?_ _ | with_reducible refine Blk.drew ?_ | with_reducible refine Blk.on ?_ _ | ((with_reducible refine Blk.chg ?_ (chg_chg _ _ _) ?_); rotate_left; (first | assumption | (focus (simp; done)) | (focus (simp; omega)))) | with_reducible refine Blk.set ?_ _ _ | ((with_reducible refine Blk.set_ne ?_ ?_ _); rotate_left; (first | assumption | (focus (simp; done)) | (focus (simp; omega)))))))
                have A7 : Hid (Blk W7 (wr.heap.size + 1) [.slice a7 (pack L').length c7, .int .i64 (L'.length : Nat)] 29) := hid (by rw [hW7]; exact (by repeat (first | exact Blk.new' (by simp; done) | exact Blk.new' rfl | with_reducible assumption | with_reducible refine Blk.alloc ?_ _ | with_reducible refine Blk.drew ?_ | with_reducible refine Blk.on ?_ _ | ((with_reducible refine Blk.chg ?_ (chg_chg _ _ _) ?_); rotate_left; (first | assumption | (focus (simp; done)) | (focus (simp; omega)))))))
                have A8 : Hid (Blk W7 (wr.heap.size) t'.cs 24) := hid (by rw [hW7]; exact (by repeat (first | exact Blk.new' (by simp; done) | exact Blk.new' rfl | with_reducible assumption | with_reducible refine Blk.alloc ?_ _ | with_reducible refine Blk.drew ?_ | with_reducible refine Blk.on ?_ _ | ((with_reducible refine Blk.chg ?_ (chg_chg _ _ _) ?_); rotate_left; (first | assumption | (focus (simp; done)) | (focus (simp; omega)))))))
                have AL : Hid (OwnV (p4 + 1) W7 o KS) := hid (by rw [hW7]; exact (by repeat (first | with_reducible exact HAL.out | ((with_reducible refine Own.set_ne ?_ ?_ _); rotate_left; (first | assumption | (focus (simp; done)) | (focus (simp [Value.ownBlock]; done)) | (focus (simp [Value.ownBlock]; omega)))) | ((with_reducible refine Own.in_some ?_ _ ?_); rotate_left; (first | assumption | (focus (simp; done)) | (focus (simp; omega)))) | ((with_reducible refine Own.in_one ?_ _ ?_); rotate_left; (first | assumption | (focus (simp [Value.ownBlock]; done)) | (focus (simp [Value.ownBlock]; omega)))) | ((with_reducible refine Own.chg ?_ (chg_chg _ _ _) ?_); rotate_left; (first | assumption | (focus (simp; done)) | (focus (simp; omega)))) | with_reducible refine Own.over ?_ _ | with_reducible refine Own.alloc ?_ _ | with_reducible refine Own.drew ?_ | exact HAL.out)))
                have AB : Hid (OwnB wr.heap.size W7 (.slice a7 (pack L').length c7) (pack L')) := hid (by rw [hW7]; (repeat (first | with_reducible refine Own.alloc ?_ _ | with_reducible refine Own.drew ?_)); exact Own.mono (Own.over_swap HO7.out (by first | exact Nat.le_refl _ | rfl | omega | (simp; done) | (simp; omega)) (by first | exact Nat.le_refl _ | rfl | omega | (simp; done) | (simp; omega))) (by first | exact Nat.le_refl _ | rfl | omega | (simp; done) | (simp; omega)))
                have hwW : wr.heap.size ≤ W7.heap.size := by rw [hW7]; simp; try omega
                clear hW7
                have n73 : ¬ ((wr.heap.size + 1) = p3) := by omega
                have n74 : ¬ ((wr.heap.size + 1) = p4) := by omega
                have n83 : ¬ ((wr.heap.size) = p3) := by omega
                have n84 : ¬ ((wr.heap.size) = p4) := by omega
                have n37 : ¬ (p3 = (wr.heap.size + 1)) := by omega
                have n38 : ¬ (p3 = (wr.heap.size)) := by omega
                have n47 : ¬ (p4 = (wr.heap.size + 1)) := by omega
                have n48 : ¬ (p4 = (wr.heap.size)) := by omega
                obtain ⟨p7, hp7⟩ : ∃ p, p = (wr.heap.size + 1) := ⟨_, rfl⟩
                obtain ⟨p8, hp8⟩ : ∃ p, p = (wr.heap.size) := ⟨_, rfl⟩
                first
                  | (rw [← hp8] at A8 n83 n84 n38 n48 ⊢; rw [← hp7] at A7 n73 n74 n37 n47 ⊢)
                  | (rw [← hp7] at A7 n73 n74 n37 n47 ⊢; rw [← hp8] at A8 n83 n84 n38 n48 ⊢)
                clear hp7 hp8
                clear m31 m32 m33 m34 m41 m42 m43 m44 r30 r31 g30 g31 l3 r40 r41 r42 r43 g40 g41 g42 g43 l4 hsb
                have r30 := A3.out.cell 0 rfl
                have r31 := A3.out.cell 1 rfl
                have g30 := A3.out.free 0
                have g31 := A3.out.free 1
                have l3 := A3.out.lt
                have r40 := A4.out.cell 0 rfl
                have r41 := A4.out.cell 1 rfl
                have r42 := A4.out.cell 2 rfl
                have r43 := A4.out.cell 3 rfl
                have g40 := A4.out.free 0
                have g41 := A4.out.free 1
                have g42 := A4.out.free 2
                have g43 := A4.out.free 3
                have l4 := A4.out.lt
                have r70 := A7.out.cell 0 rfl
                have r71 := A7.out.cell 1 rfl
                have l7 := A7.out.lt
                have r80 := A8.out.cell 0 rfl
                have r81 := A8.out.cell 1 rfl
                have r82 := A8.out.cell 2 rfl
                have r83 := A8.out.cell 3 rfl
                have l8 := A8.out.lt
                go_wp2_with (first | (go_at_call 19; (with_reducible refine (HS.out _).mono ?_); rintro _ _ ⟨⟨e8, rfl⟩, rfl⟩) | (at_builtin; refine wpList_append' val_elem Vl.cs_len Vl.cs_one rfl (.tmp 53) (.tmp 55) rfl (base := p4 + 1) (v := o) (ys := KS) (xs := [t']) (by repeat (first | with_reducible exact AL.out | ((with_reducible refine Own.set_ne ?_ ?_ _); rotate_left; (first | assumption | (focus (simp; done)) | (focus (simp [Value.ownBlock]; done)) | (focus (simp [Value.ownBlock]; omega)))) | ((with_reducible refine Own.in_some ?_ _ ?_); rotate_left; (first | assumption | (focus (simp; done)) | (focus (simp; omega)))) | ((with_reducible refine Own.in_one ?_ _ ?_); rotate_left; (first | assumption | (focus (simp [Value.ownBlock]; done)) | (focus (simp [Value.ownBlock]; omega)))) | ((with_reducible refine Own.chg ?_ (chg_chg _ _ _) ?_); rotate_left; (first | assumption | (focus (simp; done)) | (focus (simp; omega)))) | with_reducible refine Own.over ?_ _ | with_reducible refine Own.alloc ?_ _ | with_reducible refine Own.drew ?_ | exact AL.out)) rfl rfl (by first | exact Nat.le_refl _ | rfl | omega | (simp; done) | (simp; omega)) (by (repeat with_reducible refine Sl.drew ?_); exact Sl.one_new (y := t') (by simp; try omega)) (by simp only [List.length_append, List.length_singleton]; unfold maxLen; omega) (by simp only [List.length_append, List.length_singleton]; omega) ?_; intro v' m hown' hv'; have HV := hid hv'; have HW := hid hown'; clear hv' hown'))
                go_roundw
                case rel =>
                  have hL1 := HL'.out
                  have hb4 : p4 + 1 ≤ wr.heap.size := hb4'.out
                  have hlt7 : ∀ g, (Value.slice a7 (pack L').length c7).ownBlock = some g → wr.heap.size ≤ g ∧ g < W7.heap.size := fun g hg => Own.lt AB.out hg
                  have hov : ∀ g, o.ownBlock = some g → g < wr.heap.size := fun g hg => (Own.lt HAL.out hg).2
                  refine ⟨k + 1, v', by omega, by go_num, rfl, ?_⟩
                  refine ⟨(by (try unfold Ov); repeat (first | with_reducible exact O7.out | with_reducible exact O7.out | with_reducible refine ex_undrew ?_ | with_reducible refine ex_into ?_ _ | with_reducible refine ex_alloc ?_ _ | with_reducible refine ex_drew ?_ | ((with_reducible refine ex_setCell ?_ ?_ _); rotate_left; (first | omega | (focus (simp; done)) | (focus (simp; omega)))) | ((with_reducible refine ex_chg ?_ _ ?_); rotate_left; (first | assumption | (exact Hid.out (by assumption)))) | exact ex_over)), ⟨a7, c7, ⟨?_, ?_⟩, ?_⟩, ?_, ?_⟩
                  · rw [HW2.out, hL1]; exact bk_p3 A3.out n34 nl3
                  · rw [HW2.out, hL1]
                    refine Own.mono (bk_own AB.out (fun h => by have := (hlt7 _ h).1; have := hp34; omega) (fun h => by have := (hlt7 _ h).1; have := hp34; omega) (fun g hg hm => ?_)) hb4
                    have h1 := (hlt7 g hg).1
                    have h2 := hov g (by simpa using hm)
                    omega
                  · rw [HW2.out, hL1]
                    intro g hg hg'
                    have h1 := hlt7 g hg
                    rcases HV.out with h2 | ⟨g2, h2, h3⟩
                    · have h4 := hov g (by rw [← h2]; exact hg')
                      omega
                    · rw [h2] at hg'
                      have h4 : g2 = g := Option.some.inj hg'
                      have h5 : W7.heap.size ≤ g2 := by simp at h3; omega
                      omega
                  · rw [HW1.out]; exact bk_p4 A4.out n43 nl4
                  · rw [HW3.out]; exact HW.out
                case measure => simp [intOf]; omega
              exact M2.tree_no
            exact M2.tree_no
          exact M2.tree_no
        exact M2.tree_no
      exact M2.tree_no
    · obtain rfl : k = vs.length := by omega
      rw [List.take_length] at *
      have hl3 := Own.slice' bcs_len HO3.out
      obtain ⟨ao, co, rfl, sV⟩ := Own.slice Vl.cs_len HAL.out
      have hlK := knows_length Vl.zero vs
      have hLN := wrote_len (s := Vl.zero) rfl zero_wf vs hvs
      obtain ⟨N, hN⟩ : ∃ N, (wrote Vl.zero vs).length = N := ⟨_, rfl⟩
      have HN := hid hN
      clear hkl
      rw [hlK]
      have HF := hid (fun k (hk : k < vs.length) => wrote_front Vl.zero vs k hk)
      generalize hLL : wrote Vl.zero vs = LL at *
      rw [hN] at r31 hLN
      have hNm : N ≤ 4000 := by omega
      have HOV0 := H0
      have hTr : Hid (TabW wr) := hid (TabW.ov hT H0.out)
      have hsr : Hid (SlU wr a cap vs) := hid (Sl.ov hs H0.out)
      have HLL := hid hLL
      clear hLL hN ht hvk
      go_wp2_with fail
      go_loopw [10, 12] (fun at_ i wr2 => ∃ (k : Nat), k ≤ vs.length ∧ i = .int .i64 (k : Nat) ∧ at_ = .int .i64 ((wrote Vl.zero (vs.take k)).length : Nat) ∧ Ov wr wr2 ∧ Hid (Blk wr2 wr.heap.size (knowAt Vl.zero (vs.take k)).cs 24)) (fun _ i _ => vs.length - (intOf i).toNat)
      case atStart =>
        exact ⟨0, Nat.zero_le _, rfl, rfl, (by (try unfold Ov); repeat (first | with_reducible exact ex_over | with_reducible exact over_self _ | with_reducible refine ex_undrew ?_ | with_reducible refine ex_into ?_ _ | with_reducible refine ex_alloc ?_ _ | with_reducible refine ex_drew ?_ | ((with_reducible refine ex_setCell ?_ ?_ _); rotate_left; (first | omega | (focus (simp; done)) | (focus (simp; omega)))) | ((with_reducible refine ex_chg ?_ _ ?_); rotate_left; (first | assumption | (exact Hid.out (by assumption)))) | exact ex_over)), hid (by repeat (first | exact Blk.new' (by simp; done) | exact Blk.new' rfl | with_reducible assumption | with_reducible refine Blk.alloc ?_ _ | with_reducible refine Blk.drew ?_ | with_reducible refine Blk.on ?_ _ | ((with_reducible refine Blk.chg ?_ (chg_chg _ _ _) ?_); rotate_left; (first | assumption | (focus (simp; done)) | (focus (simp; omega))))))⟩
      case round =>
        obtain ⟨k, hk, rfl, rfl, ⟨e2, rfl⟩, hB⟩ := hrel
        have hp11 := hB.out.lt
        have cc0 := hB.out.cell 0 rfl
        have cc1 := hB.out.cell 1 rfl
        have cc2 := hB.out.cell 2 rfl
        have cc3 := hB.out.cell 3 rfl
        have f0 := hB.out.free 0
        have f1 := hB.out.free 1
        have f2 := hB.out.free 2
        have f3 := hB.out.free 3
        have m31 : ∀ x, p3 < wr.heap.size + x := fun x => by omega
        have m32 : ∀ x y, p3 < wr.heap.size + x + y := fun x y => by omega
        have m33 : ∀ x y z, p3 < wr.heap.size + x + y + z := fun x y z => by omega
        simp at hp11
        have m11 : ∀ x y, wr.heap.size < wr.heap.size + e2.heap.size + x + y := fun x y => by omega
        have m12 : ∀ x, wr.heap.size < wr.heap.size + e2.heap.size + x := fun x => by omega
        by_cases hlt : k < vs.length
        · obtain ⟨b6, o6, rfl, hb6, k0⟩ := SlU.at_ hsr.out hlt
          have hvk : ∀ v ∈ vs.take k, v < 18446744073709551616 := fun v hv => hvs v (List.mem_of_mem_take hv)
          have ht := knowAt_ok (s := Vl.zero) rfl zero_wf (vs.take k) hvk
          have hv := hvs vs[k] (List.getElem_mem hlt)
          obtain ⟨r, hr⟩ := HF.out k hlt
          have hX := getX_written (wrote Vl.zero (vs.take k)) r ht.1 ht.2 hv
          rw [← hr, ← List.length_append, ← wrote_snoc, ← knowAt_snoc, take_succ_get hlt] at hX
          have hkn := knows_get Vl.zero vs k hlt
          obtain ⟨t', ht'⟩ : ∃ t', knowAt Vl.zero (vs.take (k + 1)) = t' := ⟨_, rfl⟩
          rw [ht'] at hX hkn
          have HT := hid ht'
          obtain ⟨n', hn'⟩ : ∃ n', (wrote Vl.zero (vs.take (k + 1))).length = n' := ⟨_, rfl⟩
          rw [hn'] at hX
          have HN' := hid hn'
          have hlk : (wrote Vl.zero (vs.take k)).length ≤ LL.length := by rw [hr]; simp
          generalize knowAt Vl.zero (vs.take k) = t at *
          generalize wrote Vl.zero (vs.take k) = LK at *
          have HG := hid (fun W h1 h2 => xget_yes LL (by omega) a3 c3 LK.length (by omega) t ht.2 ht.1 W h1 h2)
          rw [hX, HN.out] at HG
          have HG' : Hid (∀ W, TabW W → SlB W a3 c3 (pack LL) → Calls Tryd.prog 31 #[bv a3 (pack LL).length c3 N, .int .i64 (LK.length : Nat), t.v] W (Ret W (.tuple #[.int .u64 (vs[k] : Nat), .int .i64 (n' : Nat), .agg #[.bool t'.has, .int .u64 (t'.prev : Nat), .int .u8 (t'.lead : Nat), .int .u8 (t'.width : Nat)], .int .u16 0]))) := HG
          clear HG
          generalize vs[k] = x at *
          obtain ⟨bv, ov, rfl, hbv, kv⟩ := sV.rec_ k t' hkn
          have k1 := kv 0 _ rfl
          rw [Nat.add_zero] at k1
          have k2 := kv 1 _ rfl
          have k3 := kv 2 _ rfl
          have k4 := kv 3 _ rfl
          clear kv ht' hn' hX hkn hr ht
          have q6 : ∀ z, b6 < wr.heap.size + z := fun z => by omega
          have q7 : ∀ z u, b6 < wr.heap.size + z + u := fun z u => by omega
          have q8 : ∀ z u v, b6 < wr.heap.size + z + u + v := fun z u v => by omega
          have q9 : ∀ z, bv < wr.heap.size + z := fun z => by omega
          have q10 : ∀ z u, bv < wr.heap.size + z + u := fun z u => by omega
          have q11 : ∀ z u v, bv < wr.heap.size + z + u + v := fun z u v => by omega
          go_wp2_with (go_at_call 31; (with_reducible refine (HG'.out _ (TabW.ov hTr.out (by (try unfold Ov); repeat (first | with_reducible exact ex_over | with_reducible exact over_self _ | with_reducible refine ex_undrew ?_ | with_reducible refine ex_into ?_ _ | with_reducible refine ex_alloc ?_ _ | with_reducible refine ex_drew ?_ | ((with_reducible refine ex_setCell ?_ ?_ _); rotate_left; (first | omega | (focus (simp; done)) | (focus (simp; omega)))) | ((with_reducible refine ex_chg ?_ _ ?_); rotate_left; (first | assumption | (exact Hid.out (by assumption)))) | exact ex_over))) (Sl.ov hl3.2 (by (try unfold Ov); repeat (first | with_reducible exact ex_over | with_reducible exact over_self _ | with_reducible refine ex_undrew ?_ | with_reducible refine ex_into ?_ _ | with_reducible refine ex_alloc ?_ _ | with_reducible refine ex_drew ?_ | ((with_reducible refine ex_setCell ?_ ?_ _); rotate_left; (first | omega | (focus (simp; done)) | (focus (simp; omega)))) | ((with_reducible refine ex_chg ?_ _ ?_); rotate_left; (first | assumption | (exact Hid.out (by assumption)))) | exact ex_over)))).mono ?_); rintro _ _ ⟨⟨e5, rfl⟩, rfl⟩)
          refine M2.wp_region_mix [] 18 (by kernel_rfl) (by kernel_rfl) (by decide) ?_
          simp only [List.take_succ_cons, List.take_zero, List.drop_succ_cons, List.drop_zero]
          with_reducible refine M2.mixL_quiet 18 (by kernel_rfl) ?_
          simp only [List.take_succ_cons, List.take_zero, List.drop_succ_cons, List.drop_zero]
          repeat (go_big_quiet_step (fail))
          with_reducible refine wpQuiet_nil ?_
          with_reducible refine M2.mixL_nil ?_
          with_reducible refine M2.mixL_nil ?_
          go_wp2_with fail
          go_roundw
          case rel =>
            refine ⟨k + 1, by omega, by go_num, ?_, (by (try unfold Ov); repeat (first | with_reducible exact ex_over | with_reducible exact over_self _ | with_reducible refine ex_undrew ?_ | with_reducible refine ex_into ?_ _ | with_reducible refine ex_alloc ?_ _ | with_reducible refine ex_drew ?_ | ((with_reducible refine ex_setCell ?_ ?_ _); rotate_left; (first | omega | (focus (simp; done)) | (focus (simp; omega)))) | ((with_reducible refine ex_chg ?_ _ ?_); rotate_left; (first | assumption | (exact Hid.out (by assumption)))) | exact ex_over)), ?_⟩
            · rw [HN'.out]
            · rw [HT.out]
              exact hid (Blk.to (cs' := (((t.cs.set 0 (.bool t'.has)).set 1 (.int .u64 (t'.prev : Nat))).set 2 (.int .u8 (t'.lead : Nat))).set 3 (.int .u8 (t'.width : Nat))) (by repeat (first | with_reducible exact hB.out | with_reducible refine Blk.alloc ?_ _ | with_reducible refine Blk.drew ?_ | with_reducible refine Blk.on ?_ _ | ((with_reducible refine Blk.chg ?_ (chg_chg _ _ _) ?_); rotate_left; (first | assumption | (focus (simp; done)) | (focus (simp; omega)))) | with_reducible refine Blk.set ?_ _ _ | ((with_reducible refine Blk.set_ne ?_ ?_ _); rotate_left; (first | assumption | (focus (simp; done)) | (focus (simp; omega)))))) rfl)
          case measure => simp [intOf]; omega
        · obtain rfl : k = vs.length := by omega
          rw [List.take_length, HLL.out, HN.out]
          go_wp2_with fail
          go_ret
          exact ⟨(by (try unfold Ov); repeat (first | with_reducible exact H0.out | with_reducible exact H0.out | with_reducible refine ex_undrew ?_ | with_reducible refine ex_into ?_ _ | with_reducible refine ex_alloc ?_ _ | with_reducible refine ex_drew ?_ | ((with_reducible refine ex_setCell ?_ ?_ _); rotate_left; (first | omega | (focus (simp; done)) | (focus (simp; omega)))) | ((with_reducible refine ex_chg ?_ _ ?_); rotate_left; (first | assumption | (exact Hid.out (by assumption)))) | exact ex_over)), rfl⟩
end Go.Proofs.YthljlajdkdgieaaDoor
