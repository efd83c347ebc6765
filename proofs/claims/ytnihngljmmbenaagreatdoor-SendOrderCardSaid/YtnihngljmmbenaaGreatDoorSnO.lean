import Derived.Test.YtnihngljmmbenaaGreatDoorSI
import Derived.Test.YtnihngljmmbenaaGreatDoorLLaid
namespace Go.Proofs.YtnihngljmmbenaaGreatDoor
set_option linter.unusedVariables false
set_option linter.unusedSimpArgs false
open Go.RowKit
attribute [local go_sem] over_drew chg_drew

def cfO (wn tn sn : Nat) : Cf := ⟨64, 1048576, ((1 + sn % 24 : Nat) : Int), ((1 + wn % 3000 : Nat) : Int), ((1 + tn % 1000 : Nat) : Int), 1048576⟩
theorem cfO_right (wn tn sn : Nat) : (cfO wn tn sn).right = true := by
  rw [right_iff]
  unfold cfO
  simp only
  omega
set_option maxHeartbeats 1000000 in
theorem rightc_any (wn tn sn : Nat) (h1 : wn < 65536) (h2 : tn < 65536) (h3 : sn < 256) (w : World) : Calls Tryz.prog 13 #[.int .u16 (wn : Nat), .int .u16 (tn : Nat), .int .u8 (sn : Nat)] w (Ret w (.agg #[.int .i64 64, .int .i64 1048576, .int .i64 ((1 + sn % 24 : Nat) : Int), .int .i64 ((1 + wn % 3000 : Nat) : Int), .int .i64 ((1 + tn % 1000 : Nat) : Int), .int .i64 1048576])) := by
  have e1 : Int.tmod (sn : Int) 24 = ((sn % 24 : Nat) : Int) := rfl
  have e2 : Int.tmod (wn : Int) 3000 = ((wn % 3000 : Nat) : Int) := rfl
  have e3 : Int.tmod (tn : Int) 1000 = ((tn % 1000 : Nat) : Int) := rfl
  go_enter Tryz.func13, Tryz.ntmps13
  go_wp2
  (try simp only [Exit.inBlock, Exit.then])
  refine bodyPost_ret (v := ?rv91) ?rh91 rfl ?rp91
  case rh91 => (simp only [results, show Tryz.f13.results = #[.cell 6 23] from rfl]; go_simp; rfl)
  exact ⟨ovA, by simp⟩
theorem lay_duo {base b mb sz tk ep : Nat} {W1 W W2 : World} {p pw pt mt mc ms : Nat} {Fw : List Nat} {most : Int} {L : List Se} {ops : List (Nat × Sm)} (hs : SdAt base W1 p pw pt mt mc ms Fw (sdNew ep most tk)) (hb : base ≤ W1.heap.size) (hW : ∃ e, W = over W1 e) (hov : ∃ e, W2 = over W e) (hbk : BkAt W.heap.size W2 b 64 sz mb L) (he : bkOf L = layS sz ops) (hsz : 1 ≤ sz) (hl : ops.length ≤ 60) (htk : tk ≤ 1000) :
    Duo base W.heap.size b 64 sz mb L (layS sz ops) p pw pt mt mc ms Fw (sdNew ep most tk) 0 W2 := by
  have hI := layI hsz ops ops.length (Nat.le_refl _)
  rw [List.take_length] at hI
  have hI2 := hI.mono hl
  refine Duo.start ((hs.ov hW).ov hov) (Nat.le_trans hb (Nat.le_trans (sz_over hW) (sz_over hov))) hbk he (fun k hk hm => ?_) (by have := hI2.len; omega) (fun u => ?_) htk
  · have h1 := (hbk.blt k hk).1
    have h2 := (hs.lt k hm).2
    have h3 := sz_over hW
    omega
  · exact getS_mem (P := fun s => s.all.length ≤ 60) (fun x hx => (hI2.all x hx).1) (by simp [Sr.zero, Sr.all]) u
theorem plB_refl (a b c : Nat) : plB a b c a b c = true := by unfold plB; simp
theorem place_neqN (w : World) (a b c a' b' c' : Nat) : (binOp .neq 42 (.agg #[.int .u32 (a : Nat), .int .u32 (b : Nat), .int .u32 (c : Nat)]) (.agg #[.int .u32 (a' : Nat), .int .u32 (b' : Nat), .int .u32 (c' : Nat)])).run Tryz.prog w = .ok (.bool (!plB a b c a' b' c')) w := by
  rw [place_neq, plB_eq]
def cutP (s : Sr) (p : Pl) : Pl := match cutS s 0 p 1 with
  | Option.some (_, t) => t
  | none => p
theorem cutP_pl {s : Sr} (hok : SrOk s) {p : Pl} (h : IsPl s p) : IsPl s (cutP s p) := by
  unfold cutP
  cases hc : cutS s 0 p 1 with
  | none => exact h
  | some y => exact (cutS_ok hok (show cutS s 0 p 1 = Option.some (y.1, y.2) from hc)).pl
def CutT (W : World) (tc tb tn : Nat) (en : Ending) (w' : World) : Prop :=
  ∃ k0 k1 k2 k3 k4 k5 k6 k7 k8 kn kc k9 ka, en = .returned (.tuple #[.agg #[.int .u8 k0, .int .u32 k1, .int .u32 k2, .int .u32 k3, .int .u32 k4, .int .u32 k5, .int .u32 k6, .bool k7, .int .u64 k8, .slice k9 kn kc, .int .i64 ka], .agg #[.int .u32 (tc : Nat), .int .u32 (tb : Nat), .int .u32 (tn : Nat)], .int .u16 0]) ∧ (∃ e, w' = over W e)
theorem cut_t {base : Nat} {w : World} {b n sz mb : Nat} {L : List Se} (h : BkAt base w b n sz mb L) {u : Nat} {s : Sr} (hs : getS (bkOf L) u = s) {pc pb pn : Nat} (hp : IsPl s ⟨pc, pb, pn⟩) (hcl : s.cl.length ≤ 900) {tc tb tn : Nat} (ht : cutP s ⟨pc, pb, pn⟩ = ⟨tc, tb, tn⟩) (W : World) (hW : ∃ e, W = over w e) :
    Calls Tryz.prog 17 #[.pointer (some ⟨b, 0, none⟩), .int .u32 (u : Nat), .agg #[.int .u32 (pc : Nat), .int .u32 (pb : Nat), .int .u32 (pn : Nat)], .int .i64 1] W (CutT W tc tb tn) := by
  have hok : SrOk s := by rw [← hs]; exact getS_ok h u
  unfold cutP at ht
  cases hc : cutS s 0 ⟨pc, pb, pn⟩ 1 with
  | none =>
    rw [hc] at ht
    simp only [Pl.mk.injEq] at ht
    obtain ⟨rfl, rfl, rfl⟩ := ht
    have hc2 : cutS s u ⟨pc, pb, pn⟩ 1 = none := (cutS_none hp).2 ((cutS_none hp).1 hc)
    refine (pm_fin h hs hp hcl (by omega) hc2 W hW).mono ?_
    rintro en w' ⟨a, cap, rfl, ho, _⟩
    exact ⟨_, _, _, _, _, _, _, _, _, _, _, _, _, rfl, ho⟩
  | some y =>
    obtain ⟨f, tp⟩ := y
    rw [hc] at ht
    simp only at ht
    subst ht
    have hne : (⟨pc, pb, pn⟩ : Pl) ≠ s.fin := (cutS_some hc).1
    obtain ⟨f2, t2, hc2⟩ := cutS_get (u := u) (most := 1) hp hne
    have ht2 : t2 = ⟨tc, tb, tn⟩ := by
      obtain ⟨_, c, cb, hh, _, h4⟩ := cutS_some hc
      obtain ⟨_, c', cb', hh', _, h4'⟩ := cutS_some hc2
      have := hh.1.symm.trans hh'.1
      simp only [Option.some.injEq, Prod.mk.injEq] at this
      rw [h4, h4', this.1, this.2]
    obtain ⟨fk, fcl, fsm, fbi, tc', tb', tn', hpc, rfl, h9⟩ := pmc_of hok hc2
    rw [ht2] at h9
    simp only [Pl.mk.injEq] at h9
    obtain ⟨rfl, rfl, rfl⟩ := h9
    refine (cut_c h hs hcl (by omega) hpc W hW).mono ?_
    rintro en w' ⟨a, cap, rfl, ho, _⟩
    exact ⟨_, _, _, _, _, _, _, _, _, _, _, _, _, rfl, ho⟩
end Go.Proofs.YtnihngljmmbenaaGreatDoor
