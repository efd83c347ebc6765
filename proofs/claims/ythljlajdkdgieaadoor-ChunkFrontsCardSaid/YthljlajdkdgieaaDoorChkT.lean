/- The places behind samples: lists of ints. -/
import Derived.Test.YthljlajdkdgieaaDoorGM
import Derived.Test.YthljlajdkdgieaaDoorChkX
namespace Go.Proofs.YthljlajdkdgieaaDoor
set_option linter.unusedVariables false
set_option linter.unusedSimpArgs false
open Go.RowKit

def ics (n : Nat) : List Value := [.int .i64 (n : Nat)]
theorem ics_len (n : Nat) : (ics n).length = 1 := rfl
theorem ics_one (n : Nat) : ∀ u ∈ ics n, u.oneCell' = true := by intro u hu; simp [ics] at hu; subst hu; rfl
theorem int_elem : ElemOf Tryd.prog 75 3 1 8 := elemOf (z := .int .i64 0) (by kernel_rfl) (by kernel_rfl) rfl (by decide)
abbrev OwnI (base : Nat) (w : World) (v : Value) (l : List Nat) : Prop := Own base 3 1 ics w v l
abbrev SlI (w : World) (a : Option Addr) (cap : Nat) (xs : List Nat) : Prop := Sl 1 ics w a cap xs
theorem SlI.at_ {w : World} {a : Option Addr} {cap : Nat} {xs : List Nat} (h : SlI w a cap xs) {k : Nat} (hk : k < xs.length) :
    ∃ b off, a = some ⟨b, off, none⟩ ∧ b < w.heap.size ∧ w.cell? ⟨b, off + k, none⟩ = some (.int .i64 (xs[k] : Nat)) := by
  obtain ⟨b, off, rfl, hb, hcell⟩ := h.rec_ k xs[k] (List.getElem?_eq_getElem hk)
  have := hcell 0 _ rfl
  rw [Nat.mul_one] at this
  exact ⟨b, off, rfl, hb, this⟩
/-- The places behind the first k samples. -/
def endsK (xs : List Sm) (k : Nat) : List Nat := (List.range k).map fun i => (bitsC En.zero (xs.take (i + 1))).length
theorem endsK_snoc (xs : List Sm) (k : Nat) : endsK xs (k + 1) = endsK xs k ++ [(bitsC En.zero (xs.take (k + 1))).length] := by simp [endsK, List.range_succ]
theorem endsK_len (xs : List Sm) (k : Nat) : (endsK xs k).length = k := by simp [endsK]
theorem endsK_at (xs : List Sm) {k i : Nat} (h : i < (endsK xs k).length) : (endsK xs k)[i] = (bitsC En.zero (xs.take (i + 1))).length := by simp [endsK]

/-- What chunk.walk.each does with bits: so many samples are yielded, and this stands at the end. -/
def EachOK (bs : List Nat) (a : Option Addr) (c : Nat) (N : Int) (xs : List Sm) (er : Nat) : Prop :=
  ∀ (p l : Nat) (J : Nat → World → Prop) (W : World), (∀ k A B, J k A → Chg [p] A B → J k B) → (∀ k A, J k A → TabW A) → (∀ k A, J k A → SlB A a c bs) →
    (∀ k W1, k < xs.length → J k W1 → Blk W1 p (wkC a bs.length c N (bitsC En.zero (xs.take (k + 1))).length (knowC En.zero (xs.take (k + 1))) 0) 124 → YieldAt Fence.wide 0 Tryd.prog l #[smAt xs k] W1 fun e W' => e = .returned (.bool true) ∧ J (k + 1) W' ∧ Blk W' p (wkC a bs.length c N (bitsC En.zero (xs.take (k + 1))).length (knowC En.zero (xs.take (k + 1))) 0) 124) →
    J 0 W → Blk W p (wkC a bs.length c N 0 En.zero 0) 124 →
    Calls Tryd.prog 67 #[.pointer (some ⟨p, 0, none⟩), .func (.yield l) #[] #[]] W (fun e W' => (∃ v, e = .returned v) ∧ J xs.length W' ∧ Blk W' p (if er = 0 then wkC a bs.length c N N (knowC En.zero xs) 0 else wkC a bs.length c N 0 En.zero er) 124)
theorem each_ok {L : List Bool} (hl : L.length ≤ 700000) (a : Option Addr) (c : Nat) {xs : List Sm} {er : Nat} (hr : RunC L xs er) : EachOK (pack L) a c L.length xs er :=
  fun p l J W h1 h2 h3 h4 h5 h6 => each_any L hl a c xs er hr p l J W h1 h2 h3 h4 h5 h6

set_option maxRecDepth 100000 in
set_option maxHeartbeats 4000000 in
theorem each_no {bs : List Nat} (hbs : ∀ b ∈ bs, b < 256) (hl : bs.length ≤ 1000000) {N : Int} (hN : -9223372036854775808 ≤ N ∧ N ≤ 9223372036854775807) (a : Option Addr) (c : Nat) (hn : soundB bs N = false) : EachOK bs a c N [] 11 := by
  intro p l J W hJ hT hS _ h0 hb
  have HS := hid (fun W hW => sound_any bs hbs hl N hN a c W hW)
  rw [hn] at HS
  have HJ := hid hJ
  have HSl := hid hS
  have HB := hid hb
  have H0 := hid h0
  clear hJ hT hS h0 hb
  rw [if_neg (by decide)]
  have r0 := HB.out.cell 0 rfl
  have r1 := HB.out.cell 1 rfl
  have r2 := HB.out.cell 2 rfl
  have r10 := HB.out.cell 10 rfl
  have g10 := HB.out.free 10
  have l0 := HB.out.lt
  go_enter Tryd.func67, Tryd.ntmps67
  go_wp2_with (go_at_call 37; (with_reducible refine (HS.out _ (HSl.out _ _ H0.out)).mono ?_); rintro _ _ ⟨⟨e1, rfl⟩, rfl⟩)
  refine gen_w ?_
  intro W3 hW3
  have B3 : Hid (Blk W3 p (wkC a bs.length c N 0 En.zero 11) 124) := hid (by rw [hW3]; exact Blk.on (HB.out.set 10 _) _)
  have J3 : Hid (J 0 W3) := hid (HJ.out _ _ _ H0.out (by rw [hW3]; exact (by repeat (first | with_reducible exact Chg.refl _ _ | (focus (refine ChS.chg ?_; (repeat (first | with_reducible exact ChS.refl _ _ | with_reducible refine ChS.drewl ?_ | with_reducible refine ChS.drewr ?_ | with_reducible refine ChS.over ?_ _ | with_reducible refine chS_chgs ?_ _ | ((with_reducible refine chS_set ?_ _ ?_ _); rotate_left; (first | assumption | (focus (simp; done)) | (focus (simp; assumption)))) | with_reducible refine ChS.alloc ?_ _ | ((with_reducible refine ChS.lit ?_ ?_ _ _); rotate_left; (first | assumption | (focus (simp; done)) | (focus (simp; assumption)))) | with_reducible refine ChS.alloc ?_ _)); done)) | with_reducible refine Chg.alloc ?_ _ | with_reducible refine Chg.drew ?_ | with_reducible refine Chg.on ?_ _ | ((with_reducible refine Chg.setCell ?_ ?_ _); rotate_left; (first | (focus (left; assumption)) | (focus (left; simp; done)) | (focus (right; simp; done)) | (focus (right; simp; omega)) | (focus (left; simp; omega)))) | ((with_reducible refine Chg.in_ ?_ _ ?_); rotate_left; (first | assumption | (focus (intro i hi; left; simp at hi; subst hi; assumption)) | exact fun i hi => Or.inl hi | (focus (intro i hi; left; simp [hi]; done)) | (focus (intro i hi; left; simp at hi ⊢; simp [hi]; done)) | (focus (intro i hi; simp at hi ⊢; simp [hi]; done)) | (focus (intro i hi; simp at hi ⊢; omega))))))))
  clear hW3 r0 r1 r2 r10 g10 l0
  go_loopw [] (fun wr => J 0 wr ∧ Hid (Blk wr p (wkC a bs.length c N 0 En.zero 11) 124)) (fun wr => 0)
  case atStart => exact ⟨J3.out, B3⟩
  case round =>
    obtain ⟨hj, hbk⟩ := hrel
    have r0 := hbk.out.cell 0 rfl
    have r1 := hbk.out.cell 1 rfl
    have r2 := hbk.out.cell 2 rfl
    have r10 : wr.cell? ⟨p, 10, none⟩ = some (.int .u16 11) := hbk.out.cell 10 rfl
    have l0 := hbk.out.lt
    go_wp2_with fail
    refine wp_region_over (by kernel_rfl) (by kernel_rfl) ?_
    repeat (go_big_quiet_step ((fail)))
    refine wpQuiet_nil ?_
    intro _ hw'
    obtain ⟨nq, rfl⟩ := hw'
    go_wp2_with fail
    refine ⟨rfl, _, each_res _ _, ⟨_, rfl⟩, HJ.out _ _ _ hj (by repeat (first | with_reducible exact Chg.refl _ _ | (focus (refine ChS.chg ?_; (repeat (first | with_reducible exact ChS.refl _ _ | with_reducible refine ChS.drewl ?_ | with_reducible refine ChS.drewr ?_ | with_reducible refine ChS.over ?_ _ | with_reducible refine chS_chgs ?_ _ | ((with_reducible refine chS_set ?_ _ ?_ _); rotate_left; (first | assumption | (focus (simp; done)) | (focus (simp; assumption)))) | with_reducible refine ChS.alloc ?_ _ | ((with_reducible refine ChS.lit ?_ ?_ _ _); rotate_left; (first | assumption | (focus (simp; done)) | (focus (simp; assumption)))) | with_reducible refine ChS.alloc ?_ _)); done)) | with_reducible refine Chg.alloc ?_ _ | with_reducible refine Chg.drew ?_ | with_reducible refine Chg.on ?_ _ | ((with_reducible refine Chg.setCell ?_ ?_ _); rotate_left; (first | (focus (left; assumption)) | (focus (left; simp; done)) | (focus (right; simp; done)) | (focus (right; simp; omega)) | (focus (left; simp; omega)))) | ((with_reducible refine Chg.in_ ?_ _ ?_); rotate_left; (first | assumption | (focus (intro i hi; left; simp at hi; subst hi; assumption)) | exact fun i hi => Or.inl hi | (focus (intro i hi; left; simp [hi]; done)) | (focus (intro i hi; left; simp at hi ⊢; simp [hi]; done)) | (focus (intro i hi; simp at hi ⊢; simp [hi]; done)) | (focus (intro i hi; simp at hi ⊢; omega)))))), (by repeat (first | with_reducible exact hbk.out | with_reducible refine Blk.alloc ?_ _ | with_reducible refine Blk.drew ?_ | with_reducible refine Blk.on ?_ _ | ((with_reducible refine Blk.chg ?_ (chg_chg _ _ _) ?_); rotate_left; (first | assumption | (focus (simp; done)) | (focus (simp; omega)))) | with_reducible refine Blk.set ?_ _ _ | ((with_reducible refine Blk.set_ne ?_ ?_ _); rotate_left; (first | assumption | (focus (simp; done)) | (focus (simp; omega))))))⟩
end Go.Proofs.YthljlajdkdgieaaDoor
