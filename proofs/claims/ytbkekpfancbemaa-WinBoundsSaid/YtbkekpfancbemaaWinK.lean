/- Walks: draymanlaw13.known and does. -/
import Derived.Test.YtbkekpfancbemaaWinS
namespace Go.Proofs.Ytbkekpfancbemaa
set_option linter.unusedVariables false
set_option linter.unusedSimpArgs false
open Go.RowKit

theorem WinAt.ge {base : Nat} {w : World} {p : Nat} {most : Int} {xs : List Pc} {F : List Nat} (h : WinAt base w p most xs F) : ∀ i ∈ F, base ≤ i := fun i hi => (h.lt i hi).1
theorem RWinAt.ge {base : Nat} {w : World} {p : Nat} {most : Int} {xs : List Pc} {F : List Nat} (h : RWinAt base w p most xs F) : ∀ i ∈ F, base ≤ i := fun i hi => (h.lt i hi).1

def kp1 : Pc := ⟨1, ⟨0, 0, 0⟩, ⟨0, 0, 1⟩, 60⟩
def kp2 : Pc := ⟨1, ⟨0, 0, 1⟩, ⟨0, 0, 2⟩, 60⟩
theorem kp_ok : winOk 100 [] ∧ winOk 100 [kp1] ∧ winOk 100 [kp1, kp2] := by
  refine ⟨⟨by simp [okPs], by simp [sumN], by omega⟩, ⟨by intro p hp; simp at hp; subst hp; simp [kp1], by simp [sumN, kp1], by omega⟩, ⟨?_, by simp [sumN, kp1, kp2], by omega⟩⟩
  intro p hp; simp at hp; rcases hp with rfl | rfl <;> simp [kp1, kp2]
theorem kp_wf : kp1.wf ∧ kp2.wf := by simp [Pc.wf, Pl.wf, u32ok, kp1, kp2]
theorem kp_add1 : addOk 100 [] kp1 = true ∧ addW 100 [] kp1 = [kp1] := by decide
theorem kp_add2 : addOk 100 [kp1] kp2 = true ∧ addW 100 [kp1] kp2 = [kp1, kp2] := by decide
theorem kp_ack : outW (ackQ 1 ⟨0, 0, 1⟩) [kp1, kp2] = [kp2] := by decide

set_option maxRecDepth 100000 in
set_option maxHeartbeats 2000000 in
theorem known13_any (w : World) : Calls Try.prog 16 #[] w (Ret w (.bool true)) := by
  have HN := hid (winNew_yes 100 (by omega) (by omega) w.heap.size w (Nat.le_refl _))
  have HN0 := hid (fun W => winNew_no 0 (.inl (by omega)) W)
  have H0 := hid (WinAt.new (n := 100) (Nat.le_refl w.heap.size))
  have HA : Hid (∀ W F, WinAt w.heap.size W w.heap.size 100 [] F → w.heap.size ≤ W.heap.size → Calls Try.prog 21 #[.pointer (some ⟨w.heap.size, 0, none⟩), .agg #[.int .u32 1, .int .u32 0, .int .u32 0, .int .u32 0, .int .u32 0, .int .u32 0, .int .u32 1, .int .i64 60]] W (WDid w.heap.size W w.heap.size 100 F (.bool true) [kp1])) := fun W F h hb => by
    have k := winAdd_any h kp_ok.1 kp1 kp_wf.1 hb
    rw [kp_add1.1, kp_add1.2] at k; exact k
  have HB : Hid (∀ W F, WinAt w.heap.size W w.heap.size 100 [kp1] F → w.heap.size ≤ W.heap.size → Calls Try.prog 21 #[.pointer (some ⟨w.heap.size, 0, none⟩), .agg #[.int .u32 1, .int .u32 0, .int .u32 0, .int .u32 1, .int .u32 0, .int .u32 0, .int .u32 2, .int .i64 60]] W (WDid w.heap.size W w.heap.size 100 F (.bool true) [kp1, kp2])) := fun W F h hb => by
    have k := winAdd_any h kp_ok.2.1 kp2 kp_wf.2 hb
    rw [kp_add2.1, kp_add2.2] at k; exact k
  have HR : Hid (∀ W F, WinAt w.heap.size W w.heap.size 100 [kp1, kp2] F → Calls Try.prog 27 #[.pointer (some ⟨w.heap.size, 0, none⟩)] W (Ret W (.bool false))) := fun W F h => by
    have k := winRoom_any h
    rw [show decide (sumN [kp1, kp2] < 100) = false by decide] at k; exact k
  have HC : Hid (∀ W F, WinAt w.heap.size W w.heap.size 100 [kp1, kp2] F → Calls Try.prog 19 #[.pointer (some ⟨w.heap.size, 0, none⟩), .int .u32 1, .agg #[.int .u32 0, .int .u32 0, .int .u32 1]] W (WDid w.heap.size W w.heap.size 100 F (.int .i64 1) [kp2])) := fun W F h => by
    have k := winAck_any h kp_ok.2.2 1 ⟨0, 0, 1⟩
    rw [kp_ack] at k; exact k
  have HI : Hid (∀ W F, WinAt w.heap.size W w.heap.size 100 [kp2] F → Calls Try.prog 25 #[.pointer (some ⟨w.heap.size, 0, none⟩)] W (Ret W (.int .i64 60))) := fun W F h => winIn_any h
  go_enter Try.func16, Try.ntmps16
  go_wp2_with (first
    | (go_at_call 18; (with_reducible refine HN.out.mono ?_); rintro _ _ ⟨rfl, rfl⟩)
    | (go_at_call 21; (with_reducible refine (HA.out _ _ H0.out (by simp)).mono ?_); rintro _ _ ⟨rfl, m1, F1, rfl, hw1, hf⟩; clear hf; have HW1 := hid hw1; have G1 := hid hw1.ge; clear hw1)
    | (go_at_call 21; (with_reducible refine (HB.out _ _ HW1.out (by simp; omega)).mono ?_); rintro _ _ ⟨rfl, m2, F2, rfl, hw2, hf⟩; clear hf; have HW2 := hid hw2; have G2 := hid hw2.ge; clear hw2)
    | (go_at_call 27; (with_reducible refine (HR.out _ _ HW2.out).mono ?_); rintro _ _ ⟨⟨e3, rfl⟩, rfl⟩; have HW3 := hid (HW2.out.chg (G := []) (Chg.of_ov (w' := over _ e3) ex_over []) (by simp)))
    | (go_at_call 19; (with_reducible refine (HC.out _ _ HW3.out).mono ?_); rintro _ _ ⟨rfl, m4, F4, rfl, hw4, hf⟩; clear hf; have HW4 := hid hw4; have G4 := hid hw4.ge; clear hw4)
    | (go_at_call 25; (with_reducible refine (HI.out _ _ HW4.out).mono ?_); rintro _ _ ⟨⟨e5, rfl⟩, rfl⟩)
    | (go_at_call 18; (with_reducible refine (HN0.out _).mono ?_); rintro _ _ ⟨rfl, rfl⟩))
  go_ret
  have G0 : Hid (∀ i ∈ [w.heap.size], w.heap.size ≤ i) := hid (by simp)
  exact ⟨(by (try unfold Ov); repeat (first | with_reducible exact ex_over | with_reducible exact over_self _ | with_reducible refine ex_into ?_ _ | with_reducible refine ex_alloc ?_ _ | with_reducible refine ex_drew ?_ | ((with_reducible refine ex_setCell ?_ ?_ _); rotate_left; (first | omega | (simp; done) | (simp; omega))) | ((with_reducible refine ex_chg ?_ _ ?_); rotate_left; (first | assumption | (exact Hid.out (by assumption)))) | exact ex_over)), rfl⟩

/-- A call on a window, as the laws have it. -/
structure Wo where
  k : Int
  p : Pc
  deriving Inhabited
namespace Wo
def cs (o : Wo) : List Value := .int .u8 o.k :: o.p.cs
abbrev v (o : Wo) : Value := .agg #[.int .u8 o.k, .int .u32 o.p.s, .int .u32 o.p.f.c, .int .u32 o.p.f.b, .int .u32 o.p.f.n, .int .u32 o.p.t.c, .int .u32 o.p.t.b, .int .u32 o.p.t.n, .int .i64 o.p.n]
def wf (o : Wo) : Prop := (0 ≤ o.k ∧ o.k < 256) ∧ o.p.wf
theorem cs_len (o : Wo) : o.cs.length = 9 := rfl
end Wo
abbrev SlW (w : World) (a : Option Addr) (cap : Nat) (xs : List Wo) : Prop := Sl 9 Wo.cs w a cap xs
theorem SlW.at_ {w : World} {a : Option Addr} {cap : Nat} {xs : List Wo} (h : SlW w a cap xs) {k : Nat} (hk : k < xs.length) :
    ∃ b off, a = some ⟨b, off, none⟩ ∧ b < w.heap.size ∧ w.cell? ⟨b, off + k * 9, none⟩ = some (.int .u8 xs[k].k) ∧ w.cell? ⟨b, off + k * 9 + 1, none⟩ = some (.int .u32 xs[k].p.s) ∧ w.cell? ⟨b, off + k * 9 + 2, none⟩ = some (.int .u32 xs[k].p.f.c) ∧ w.cell? ⟨b, off + k * 9 + 3, none⟩ = some (.int .u32 xs[k].p.f.b) ∧
      w.cell? ⟨b, off + k * 9 + 4, none⟩ = some (.int .u32 xs[k].p.f.n) ∧ w.cell? ⟨b, off + k * 9 + 5, none⟩ = some (.int .u32 xs[k].p.t.c) ∧ w.cell? ⟨b, off + k * 9 + 6, none⟩ = some (.int .u32 xs[k].p.t.b) ∧ w.cell? ⟨b, off + k * 9 + 7, none⟩ = some (.int .u32 xs[k].p.t.n) ∧
      w.cell? ⟨b, off + k * 9 + 8, none⟩ = some (.int .i64 xs[k].p.n) := by
  obtain ⟨b, off, rfl, hb, hcell⟩ := h.rec_ k xs[k] (List.getElem?_eq_getElem hk)
  exact ⟨b, off, rfl, hb, hcell 0 _ rfl, hcell 1 _ rfl, hcell 2 _ rfl, hcell 3 _ rfl, hcell 4 _ rfl, hcell 5 _ rfl, hcell 6 _ rfl, hcell 7 _ rfl, hcell 8 _ rfl⟩

/-- what is under way behind such a call -/
def stepW (most : Int) (o : Wo) (xs : List Pc) : List Pc :=
  if o.k % 6 = 3 ∨ o.k % 6 = 4 then outW (ackQ o.p.s o.p.t) xs else if o.k % 6 = 5 then outW (dropQ o.p.s) xs else addW most xs o.p
theorem stepW_ok {most : Int} {xs : List Pc} (h : winOk most xs) (o : Wo) : winOk most (stepW most o xs) := by
  unfold stepW
  split
  · exact winOk_out h _
  · split
    · exact winOk_out h _
    · exact winOk_add h _

/-- Both windows behind a call. -/
def Both (base : Nat) (w : World) (p r : Nat) (most : Int) (F G : List Nat) (xs' : List Pc) (en : Ending) (w' : World) : Prop :=
  en = .returned (.bool true) ∧ ∃ m F' G', w' = chg (F ++ G) w m ∧ WinAt base w' p most xs' F' ∧ RWinAt base w' r most xs' G' ∧ ∀ k ∈ F', k ∉ G'
theorem Both.mk {base : Nat} {w w1 w' : World} {p r : Nat} {most : Int} {F G F' G' : List Nat} {xs' : List Pc} {m1 m2 : Mut} (hd : ∀ k ∈ F, k ∉ G) (hG : ∀ k ∈ G, k < w.heap.size) (hw0 : Chg [] w w1) (hF' : ∀ k ∈ F', k ∈ F ∨ w1.heap.size ≤ k) (hW : WinAt base (chg F w1 m1) p most xs' F')
    (hG' : ∀ k ∈ G', k ∈ G ∨ (chg F w1 m1).heap.size ≤ k) (hR : RWinAt base (chg G (chg F w1 m1) m2) r most xs' G') (hc : Chg [] (chg G (chg F w1 m1) m2) w') : Both base w p r most F G xs' (.returned (.bool true)) w' := by
  have hs := hw0.size
  have d1 : ∀ k ∈ F', k ∉ G := fun k hk hg => by
    rcases hF' k hk with h | h
    · exact hd k h hg
    · have := hG k hg; omega
  have hcc : Chg (F ++ G) w w' := (((hw0.mono (by simp)).in_ m1 (fun i hi => .inl (by simp [hi]))).in_ m2 (fun i hi => .inl (by simp [hi]))).then hc (by simp)
  obtain ⟨m, hm⟩ := chg_of hcc
  refine ⟨rfl, m, F', G', hm, (hW.chg (chg_chg G _ m2) d1).chg hc (by simp), hR.chg hc (by simp), fun k hk hg => ?_⟩
  rcases hG' k hg with h | h
  · exact d1 k hk h
  · have := (hW.lt k hk).2; omega

theorem cls1 {F G H : List Nat} {W : World} (h : H = F ++ G) (m1 : Mut) : ∃ m, chg F W m1 = chg H W m := chg_of ((chg_chg F W m1).mono (fun i hi => .inl (by rw [h]; simp [hi])))
theorem cls2 {F G H : List Nat} {W : World} (h : H = F ++ G) (m1 m2 : Mut) : ∃ m, chg G (chg F W m1) m2 = chg H W m :=
  chg_of ((((chg_chg F W m1).mono (G := H) (fun i hi => .inl (by rw [h]; simp [hi])))).in_ m2 (fun i hi => .inl (by rw [h]; simp [hi])))

set_option maxRecDepth 100000 in
set_option maxHeartbeats 4000000 in
theorem does13_any {base : Nat} {w : World} {p r : Nat} {most : Int} {xs : List Pc} {F G : List Nat} (h : WinAt base w p most xs F) (hr : RWinAt base w r most xs G) (hd : ∀ k ∈ F, k ∉ G) (hk : winOk most xs) (o : Wo) (ho : o.wf) (hb : base ≤ w.heap.size) :
    Calls Try.prog 24 #[.pointer (some ⟨p, 0, none⟩), .pointer (some ⟨r, 0, none⟩), o.v] w (Both base w p r most F G (stepW most o xs)) := by
  have HA := hid (fun W (hW : Chg [] w W) => winAck_any (h.chg hW (by simp)) hk o.p.s o.p.t)
  have HR := hid (fun W (hW : Chg F w W) => rAck_any (hr.chg hW (fun k hk hf => hd k hf hk)) hk o.p.s o.p.t (Nat.le_trans hb hW.size))
  have HD := hid (fun W (hW : Chg [] w W) => winDrop_any (h.chg hW (by simp)) hk o.p.s)
  have HS := hid (fun W (hW : Chg F w W) => rDrop_any (hr.chg hW (fun k hk hf => hd k hf hk)) hk o.p.s (Nat.le_trans hb hW.size))
  have HE := hid (fun W (hW : Chg [] w W) => winAdd_any (h.chg hW (by simp)) hk o.p ho.2 (Nat.le_trans hb hW.size))
  have HT := hid (fun W (hW : Chg F w W) => rAdd_any (hr.chg hW (fun k hk hf => hd k hf hk)) hk o.p ho.2 (Nat.le_trans hb hW.size))
  have hF := h.lt
  have hG := hr.lt
  have n1 : w.heap.size ∉ F ++ G := fun hm => by
    rcases List.mem_append.1 hm with hm | hm
    · have := (hF _ hm).2; omega
    · have := (hG _ hm).2; omega
  have Hd := hid hd
  have HG := hid (fun k hk => (hG k hk).2)
  obtain ⟨H, hH⟩ : ∃ H, H = F ++ G := ⟨_, rfl⟩
  rw [← hH] at n1
  have HH := hid hH
  have ho1 := ho.1.1
  have ho2 := ho.1.2
  unfold Pc.v Pl.v at *
  clear hF hG hd h hr hk hH
  have HC0 : Hid (∃ m, (w.alloc (.cells #[.int .u8 o.k, .int .u32 o.p.s, .int .u32 o.p.f.c, .int .u32 o.p.f.b, .int .u32 o.p.f.n, .int .u32 o.p.t.c, .int .u32 o.p.t.b, .int .u32 o.p.t.n, .int .i64 o.p.n] 34)).drew = chg H (w.alloc (.cells #[.int .u8 o.k, .int .u32 o.p.s, .int .u32 o.p.f.c, .int .u32 o.p.f.b, .int .u32 o.p.f.n, .int .u32 o.p.t.c, .int .u32 o.p.t.b, .int .u32 o.p.t.n, .int .i64 o.p.n] 34)).drew m) := chg_of (Chg.refl _ _)
  by_cases g1 : o.k % 6 = 3 ∨ o.k % 6 = 4
  · have Hst := hid (show stepW most o xs = outW (ackQ o.p.s o.p.t) xs by rw [stepW, if_pos g1])
    have e : (o.k % 6 == 3) = true ∨ ((o.k % 6 == 3) = false ∧ (o.k % 6 == 4) = true) := by
      rcases g1 with g | g
      · left; simp [g]
      · right; simp [g]
    clear g1
    rcases e with e1 | ⟨e1, e2⟩
    all_goals
      go_enter Try.func24, Try.ntmps24
      go_wp2_with fail
      refine M2.wp_region_mixZ (fun w' => ∃ m, w' = chg H (w.alloc (.cells #[.int .u8 o.k, .int .u32 o.p.s, .int .u32 o.p.f.c, .int .u32 o.p.f.b, .int .u32 o.p.f.n, .int .u32 o.p.t.c, .int .u32 o.p.t.b, .int .u32 o.p.t.n, .int .i64 o.p.n] 34)).drew m) [7, 15] 18 (by kernel_rfl) (by kernel_rfl) (by decide) (HC0.out) ?_
      simp only [List.take_succ_cons, List.take_zero, List.drop_succ_cons, List.drop_zero]
      refine M2.mixL_quiet 7 (by kernel_rfl) ?_
      simp only [List.take_succ_cons, List.take_zero, List.drop_succ_cons, List.drop_zero]
      repeat (go_big_quiet_step (fail))
      refine wpQuiet_nil ?_
      refine M2.mixL_eff rfl ?_
      go_wp2_with ((first | (go_at_call 19; refine (HA.out _ (by repeat (first | with_reducible exact Chg.refl _ _ | with_reducible refine Chg.alloc ?_ _ | with_reducible refine Chg.drew ?_ | with_reducible refine Chg.on ?_ _ | ((with_reducible refine Chg.setCell ?_ ?_ _); rotate_left; (first | (focus (left; simp; done)) | (focus (right; simp; done)) | (focus (right; simp; omega)) | (focus (left; simp; omega)))) | ((with_reducible refine Chg.in_ ?_ _ ?_); rotate_left; (first | assumption | exact fun i hi => Or.inl hi | (focus (intro i hi; left; simp [hi]; done)) | (focus (intro i hi; left; simp at hi ⊢; simp [hi]; done)) | (focus (intro i hi; simp at hi ⊢; simp [hi]; done)) | (focus (intro i hi; simp at hi ⊢; omega))))))).mono ?_; rintro _ _ ⟨rfl, m1, F1, rfl, hw1, hf1⟩; have HW1 := hid hw1; have HF1 := hid hf1; clear hw1 hf1) | (go_at_call 51; refine (HR.out _ (by repeat (first | with_reducible exact Chg.refl _ _ | with_reducible refine Chg.alloc ?_ _ | with_reducible refine Chg.drew ?_ | with_reducible refine Chg.on ?_ _ | ((with_reducible refine Chg.setCell ?_ ?_ _); rotate_left; (first | (focus (left; simp; done)) | (focus (right; simp; done)) | (focus (right; simp; omega)) | (focus (left; simp; omega)))) | ((with_reducible refine Chg.in_ ?_ _ ?_); rotate_left; (first | assumption | exact fun i hi => Or.inl hi | (focus (intro i hi; left; simp [hi]; done)) | (focus (intro i hi; left; simp at hi ⊢; simp [hi]; done)) | (focus (intro i hi; simp at hi ⊢; simp [hi]; done)) | (focus (intro i hi; simp at hi ⊢; omega))))))).mono ?_; rintro _ _ ⟨rfl, m2, F2, rfl, hw2, hf2⟩; have HW2 := hid hw2; have HF2 := hid hf2; clear hw2 hf2)))
      refine M2.MixQ.mk (by first | exact cls2 HH.out m1 m2 | exact cls1 HH.out m1) ?_
      refine M2.mixL_quiet 7 (by kernel_rfl) ?_
      simp only [List.take_succ_cons, List.take_zero, List.drop_succ_cons, List.drop_zero]
      repeat (go_big_quiet_step (fail))
      refine wpQuiet_nil ?_
      refine M2.mixL_eff rfl ?_
      go_wp2_with ((first | (go_at_call 19; refine (HA.out _ (by repeat (first | with_reducible exact Chg.refl _ _ | with_reducible refine Chg.alloc ?_ _ | with_reducible refine Chg.drew ?_ | with_reducible refine Chg.on ?_ _ | ((with_reducible refine Chg.setCell ?_ ?_ _); rotate_left; (first | (focus (left; simp; done)) | (focus (right; simp; done)) | (focus (right; simp; omega)) | (focus (left; simp; omega)))) | ((with_reducible refine Chg.in_ ?_ _ ?_); rotate_left; (first | assumption | exact fun i hi => Or.inl hi | (focus (intro i hi; left; simp [hi]; done)) | (focus (intro i hi; left; simp at hi ⊢; simp [hi]; done)) | (focus (intro i hi; simp at hi ⊢; simp [hi]; done)) | (focus (intro i hi; simp at hi ⊢; omega))))))).mono ?_; rintro _ _ ⟨rfl, m1, F1, rfl, hw1, hf1⟩; have HW1 := hid hw1; have HF1 := hid hf1; clear hw1 hf1) | (go_at_call 51; refine (HR.out _ (by repeat (first | with_reducible exact Chg.refl _ _ | with_reducible refine Chg.alloc ?_ _ | with_reducible refine Chg.drew ?_ | with_reducible refine Chg.on ?_ _ | ((with_reducible refine Chg.setCell ?_ ?_ _); rotate_left; (first | (focus (left; simp; done)) | (focus (right; simp; done)) | (focus (right; simp; omega)) | (focus (left; simp; omega)))) | ((with_reducible refine Chg.in_ ?_ _ ?_); rotate_left; (first | assumption | exact fun i hi => Or.inl hi | (focus (intro i hi; left; simp [hi]; done)) | (focus (intro i hi; left; simp at hi ⊢; simp [hi]; done)) | (focus (intro i hi; simp at hi ⊢; simp [hi]; done)) | (focus (intro i hi; simp at hi ⊢; omega))))))).mono ?_; rintro _ _ ⟨rfl, m2, F2, rfl, hw2, hf2⟩; have HW2 := hid hw2; have HF2 := hid hf2; clear hw2 hf2)))
      refine M2.MixQ.mk (by first | exact cls2 HH.out m1 m2 | exact cls1 HH.out m1) ?_
      refine M2.mixL_quiet 2 (by kernel_rfl) ?_
      simp only [List.take_succ_cons, List.take_zero, List.drop_succ_cons, List.drop_zero]
      repeat (go_big_quiet_step (fail))
      refine wpQuiet_nil ?_
      refine M2.mixL_nil ?_
      refine M2.mixL_nil ?_
      go_wp2_with fail
      go_ret
      rw [Hst.out]
      exact Both.mk Hd.out HG.out (w1 := (w.alloc (.cells #[.int .u8 o.k, .int .u32 o.p.s, .int .u32 o.p.f.c, .int .u32 o.p.f.b, .int .u32 o.p.f.n, .int .u32 o.p.t.c, .int .u32 o.p.t.b, .int .u32 o.p.t.n, .int .i64 o.p.n] 34)).drew) (by repeat (first | with_reducible exact Chg.refl _ _ | with_reducible refine Chg.alloc ?_ _ | with_reducible refine Chg.drew ?_ | with_reducible refine Chg.on ?_ _ | ((with_reducible refine Chg.setCell ?_ ?_ _); rotate_left; (first | (focus (left; simp; done)) | (focus (right; simp; done)) | (focus (right; simp; omega)) | (focus (left; simp; omega)))) | ((with_reducible refine Chg.in_ ?_ _ ?_); rotate_left; (first | assumption | exact fun i hi => Or.inl hi | (focus (intro i hi; left; simp [hi]; done)) | (focus (intro i hi; left; simp at hi ⊢; simp [hi]; done)) | (focus (intro i hi; simp at hi ⊢; simp [hi]; done)) | (focus (intro i hi; simp at hi ⊢; omega)))))) HF1.out HW1.out HF2.out HW2.out (Chg.refl _ _)
  · have g2 : ¬ o.k % 6 = 3 := fun h => g1 (.inl h)
    have g3 : ¬ o.k % 6 = 4 := fun h => g1 (.inr h)
    have e1 : (o.k % 6 == 3) = false := by simp [g2]
    have e2 : (o.k % 6 == 4) = false := by simp [g3]
    by_cases g4 : o.k % 6 = 5
    · have Hst := hid (show stepW most o xs = outW (dropQ o.p.s) xs by rw [stepW, if_neg g1, if_pos g4])
      have e3 : (o.k % 6 == 5) = true := by simp [g4]
      clear g1 g2 g3 g4
      go_enter Try.func24, Try.ntmps24
      go_wp2_with fail
      refine M2.wp_region_mixZ (fun w' => ∃ m, w' = chg H (w.alloc (.cells #[.int .u8 o.k, .int .u32 o.p.s, .int .u32 o.p.f.c, .int .u32 o.p.f.b, .int .u32 o.p.f.n, .int .u32 o.p.t.c, .int .u32 o.p.t.b, .int .u32 o.p.t.n, .int .i64 o.p.n] 34)).drew m) [4, 9] 12 (by kernel_rfl) (by kernel_rfl) (by decide) (HC0.out) ?_
      simp only [List.take_succ_cons, List.take_zero, List.drop_succ_cons, List.drop_zero]
      refine M2.mixL_quiet 4 (by kernel_rfl) ?_
      simp only [List.take_succ_cons, List.take_zero, List.drop_succ_cons, List.drop_zero]
      repeat (go_big_quiet_step (fail))
      refine wpQuiet_nil ?_
      refine M2.mixL_eff rfl ?_
      go_wp2_with ((first | (go_at_call 20; refine (HD.out _ (by repeat (first | with_reducible exact Chg.refl _ _ | with_reducible refine Chg.alloc ?_ _ | with_reducible refine Chg.drew ?_ | with_reducible refine Chg.on ?_ _ | ((with_reducible refine Chg.setCell ?_ ?_ _); rotate_left; (first | (focus (left; simp; done)) | (focus (right; simp; done)) | (focus (right; simp; omega)) | (focus (left; simp; omega)))) | ((with_reducible refine Chg.in_ ?_ _ ?_); rotate_left; (first | assumption | exact fun i hi => Or.inl hi | (focus (intro i hi; left; simp [hi]; done)) | (focus (intro i hi; left; simp at hi ⊢; simp [hi]; done)) | (focus (intro i hi; simp at hi ⊢; simp [hi]; done)) | (focus (intro i hi; simp at hi ⊢; omega))))))).mono ?_; rintro _ _ ⟨rfl, m1, F1, rfl, hw1, hf1⟩; have HW1 := hid hw1; have HF1 := hid hf1; clear hw1 hf1) | (go_at_call 52; refine (HS.out _ (by repeat (first | with_reducible exact Chg.refl _ _ | with_reducible refine Chg.alloc ?_ _ | with_reducible refine Chg.drew ?_ | with_reducible refine Chg.on ?_ _ | ((with_reducible refine Chg.setCell ?_ ?_ _); rotate_left; (first | (focus (left; simp; done)) | (focus (right; simp; done)) | (focus (right; simp; omega)) | (focus (left; simp; omega)))) | ((with_reducible refine Chg.in_ ?_ _ ?_); rotate_left; (first | assumption | exact fun i hi => Or.inl hi | (focus (intro i hi; left; simp [hi]; done)) | (focus (intro i hi; left; simp at hi ⊢; simp [hi]; done)) | (focus (intro i hi; simp at hi ⊢; simp [hi]; done)) | (focus (intro i hi; simp at hi ⊢; omega))))))).mono ?_; rintro _ _ ⟨rfl, m2, F2, rfl, hw2, hf2⟩; have HW2 := hid hw2; have HF2 := hid hf2; clear hw2 hf2)))
      refine M2.MixQ.mk (by first | exact cls2 HH.out m1 m2 | exact cls1 HH.out m1) ?_
      refine M2.mixL_quiet 4 (by kernel_rfl) ?_
      simp only [List.take_succ_cons, List.take_zero, List.drop_succ_cons, List.drop_zero]
      repeat (go_big_quiet_step (fail))
      refine wpQuiet_nil ?_
      refine M2.mixL_eff rfl ?_
      go_wp2_with ((first | (go_at_call 20; refine (HD.out _ (by repeat (first | with_reducible exact Chg.refl _ _ | with_reducible refine Chg.alloc ?_ _ | with_reducible refine Chg.drew ?_ | with_reducible refine Chg.on ?_ _ | ((with_reducible refine Chg.setCell ?_ ?_ _); rotate_left; (first | (focus (left; simp; done)) | (focus (right; simp; done)) | (focus (right; simp; omega)) | (focus (left; simp; omega)))) | ((with_reducible refine Chg.in_ ?_ _ ?_); rotate_left; (first | assumption | exact fun i hi => Or.inl hi | (focus (intro i hi; left; simp [hi]; done)) | (focus (intro i hi; left; simp at hi ⊢; simp [hi]; done)) | (focus (intro i hi; simp at hi ⊢; simp [hi]; done)) | (focus (intro i hi; simp at hi ⊢; omega))))))).mono ?_; rintro _ _ ⟨rfl, m1, F1, rfl, hw1, hf1⟩; have HW1 := hid hw1; have HF1 := hid hf1; clear hw1 hf1) | (go_at_call 52; refine (HS.out _ (by repeat (first | with_reducible exact Chg.refl _ _ | with_reducible refine Chg.alloc ?_ _ | with_reducible refine Chg.drew ?_ | with_reducible refine Chg.on ?_ _ | ((with_reducible refine Chg.setCell ?_ ?_ _); rotate_left; (first | (focus (left; simp; done)) | (focus (right; simp; done)) | (focus (right; simp; omega)) | (focus (left; simp; omega)))) | ((with_reducible refine Chg.in_ ?_ _ ?_); rotate_left; (first | assumption | exact fun i hi => Or.inl hi | (focus (intro i hi; left; simp [hi]; done)) | (focus (intro i hi; left; simp at hi ⊢; simp [hi]; done)) | (focus (intro i hi; simp at hi ⊢; simp [hi]; done)) | (focus (intro i hi; simp at hi ⊢; omega))))))).mono ?_; rintro _ _ ⟨rfl, m2, F2, rfl, hw2, hf2⟩; have HW2 := hid hw2; have HF2 := hid hf2; clear hw2 hf2)))
      refine M2.MixQ.mk (by first | exact cls2 HH.out m1 m2 | exact cls1 HH.out m1) ?_
      refine M2.mixL_quiet 2 (by kernel_rfl) ?_
      simp only [List.take_succ_cons, List.take_zero, List.drop_succ_cons, List.drop_zero]
      repeat (go_big_quiet_step (fail))
      refine wpQuiet_nil ?_
      refine M2.mixL_nil ?_
      refine M2.mixL_nil ?_
      go_wp2_with fail
      go_ret
      rw [Hst.out]
      exact Both.mk Hd.out HG.out (w1 := (w.alloc (.cells #[.int .u8 o.k, .int .u32 o.p.s, .int .u32 o.p.f.c, .int .u32 o.p.f.b, .int .u32 o.p.f.n, .int .u32 o.p.t.c, .int .u32 o.p.t.b, .int .u32 o.p.t.n, .int .i64 o.p.n] 34)).drew) (by repeat (first | with_reducible exact Chg.refl _ _ | with_reducible refine Chg.alloc ?_ _ | with_reducible refine Chg.drew ?_ | with_reducible refine Chg.on ?_ _ | ((with_reducible refine Chg.setCell ?_ ?_ _); rotate_left; (first | (focus (left; simp; done)) | (focus (right; simp; done)) | (focus (right; simp; omega)) | (focus (left; simp; omega)))) | ((with_reducible refine Chg.in_ ?_ _ ?_); rotate_left; (first | assumption | exact fun i hi => Or.inl hi | (focus (intro i hi; left; simp [hi]; done)) | (focus (intro i hi; left; simp at hi ⊢; simp [hi]; done)) | (focus (intro i hi; simp at hi ⊢; simp [hi]; done)) | (focus (intro i hi; simp at hi ⊢; omega)))))) HF1.out HW1.out HF2.out HW2.out (Chg.refl _ _)
    · have Hst := hid (show stepW most o xs = addW most xs o.p by rw [stepW, if_neg g1, if_neg g4])
      have e3 : (o.k % 6 == 5) = false := by simp [g4]
      clear g1 g2 g3 g4
      go_enter Try.func24, Try.ntmps24
      go_wp2_with fail
      refine M2.wp_region_mixZ (fun w' => ∃ m, w' = chg H (w.alloc (.cells #[.int .u8 o.k, .int .u32 o.p.s, .int .u32 o.p.f.c, .int .u32 o.p.f.b, .int .u32 o.p.f.n, .int .u32 o.p.t.c, .int .u32 o.p.t.b, .int .u32 o.p.t.n, .int .i64 o.p.n] 34)).drew m) [3, 7] 10 (by kernel_rfl) (by kernel_rfl) (by decide) (HC0.out) ?_
      simp only [List.take_succ_cons, List.take_zero, List.drop_succ_cons, List.drop_zero]
      refine M2.mixL_quiet 3 (by kernel_rfl) ?_
      simp only [List.take_succ_cons, List.take_zero, List.drop_succ_cons, List.drop_zero]
      repeat (go_big_quiet_step (fail))
      refine wpQuiet_nil ?_
      refine M2.mixL_eff rfl ?_
      go_wp2_with ((first | (go_at_call 21; refine (HE.out _ (by repeat (first | with_reducible exact Chg.refl _ _ | with_reducible refine Chg.alloc ?_ _ | with_reducible refine Chg.drew ?_ | with_reducible refine Chg.on ?_ _ | ((with_reducible refine Chg.setCell ?_ ?_ _); rotate_left; (first | (focus (left; simp; done)) | (focus (right; simp; done)) | (focus (right; simp; omega)) | (focus (left; simp; omega)))) | ((with_reducible refine Chg.in_ ?_ _ ?_); rotate_left; (first | assumption | exact fun i hi => Or.inl hi | (focus (intro i hi; left; simp [hi]; done)) | (focus (intro i hi; left; simp at hi ⊢; simp [hi]; done)) | (focus (intro i hi; simp at hi ⊢; simp [hi]; done)) | (focus (intro i hi; simp at hi ⊢; omega))))))).mono ?_; rintro _ _ ⟨rfl, m1, F1, rfl, hw1, hf1⟩; have HW1 := hid hw1; have HF1 := hid hf1; clear hw1 hf1) | (go_at_call 53; refine (HT.out _ (by repeat (first | with_reducible exact Chg.refl _ _ | with_reducible refine Chg.alloc ?_ _ | with_reducible refine Chg.drew ?_ | with_reducible refine Chg.on ?_ _ | ((with_reducible refine Chg.setCell ?_ ?_ _); rotate_left; (first | (focus (left; simp; done)) | (focus (right; simp; done)) | (focus (right; simp; omega)) | (focus (left; simp; omega)))) | ((with_reducible refine Chg.in_ ?_ _ ?_); rotate_left; (first | assumption | exact fun i hi => Or.inl hi | (focus (intro i hi; left; simp [hi]; done)) | (focus (intro i hi; left; simp at hi ⊢; simp [hi]; done)) | (focus (intro i hi; simp at hi ⊢; simp [hi]; done)) | (focus (intro i hi; simp at hi ⊢; omega))))))).mono ?_; rintro _ _ ⟨rfl, m2, F2, rfl, hw2, hf2⟩; have HW2 := hid hw2; have HF2 := hid hf2; clear hw2 hf2)))
      refine M2.MixQ.mk (by first | exact cls2 HH.out m1 m2 | exact cls1 HH.out m1) ?_
      refine M2.mixL_quiet 3 (by kernel_rfl) ?_
      simp only [List.take_succ_cons, List.take_zero, List.drop_succ_cons, List.drop_zero]
      repeat (go_big_quiet_step (fail))
      refine wpQuiet_nil ?_
      refine M2.mixL_eff rfl ?_
      go_wp2_with ((first | (go_at_call 21; refine (HE.out _ (by repeat (first | with_reducible exact Chg.refl _ _ | with_reducible refine Chg.alloc ?_ _ | with_reducible refine Chg.drew ?_ | with_reducible refine Chg.on ?_ _ | ((with_reducible refine Chg.setCell ?_ ?_ _); rotate_left; (first | (focus (left; simp; done)) | (focus (right; simp; done)) | (focus (right; simp; omega)) | (focus (left; simp; omega)))) | ((with_reducible refine Chg.in_ ?_ _ ?_); rotate_left; (first | assumption | exact fun i hi => Or.inl hi | (focus (intro i hi; left; simp [hi]; done)) | (focus (intro i hi; left; simp at hi ⊢; simp [hi]; done)) | (focus (intro i hi; simp at hi ⊢; simp [hi]; done)) | (focus (intro i hi; simp at hi ⊢; omega))))))).mono ?_; rintro _ _ ⟨rfl, m1, F1, rfl, hw1, hf1⟩; have HW1 := hid hw1; have HF1 := hid hf1; clear hw1 hf1) | (go_at_call 53; refine (HT.out _ (by repeat (first | with_reducible exact Chg.refl _ _ | with_reducible refine Chg.alloc ?_ _ | with_reducible refine Chg.drew ?_ | with_reducible refine Chg.on ?_ _ | ((with_reducible refine Chg.setCell ?_ ?_ _); rotate_left; (first | (focus (left; simp; done)) | (focus (right; simp; done)) | (focus (right; simp; omega)) | (focus (left; simp; omega)))) | ((with_reducible refine Chg.in_ ?_ _ ?_); rotate_left; (first | assumption | exact fun i hi => Or.inl hi | (focus (intro i hi; left; simp [hi]; done)) | (focus (intro i hi; left; simp at hi ⊢; simp [hi]; done)) | (focus (intro i hi; simp at hi ⊢; simp [hi]; done)) | (focus (intro i hi; simp at hi ⊢; omega))))))).mono ?_; rintro _ _ ⟨rfl, m2, F2, rfl, hw2, hf2⟩; have HW2 := hid hw2; have HF2 := hid hf2; clear hw2 hf2)))
      refine M2.MixQ.mk (by first | exact cls2 HH.out m1 m2 | exact cls1 HH.out m1) ?_
      refine M2.mixL_quiet 2 (by kernel_rfl) ?_
      simp only [List.take_succ_cons, List.take_zero, List.drop_succ_cons, List.drop_zero]
      repeat (go_big_quiet_step (fail))
      refine wpQuiet_nil ?_
      refine M2.mixL_nil ?_
      refine M2.mixL_nil ?_
      go_wp2_with fail
      go_ret
      rw [Hst.out]
      exact Both.mk Hd.out HG.out (w1 := (w.alloc (.cells #[.int .u8 o.k, .int .u32 o.p.s, .int .u32 o.p.f.c, .int .u32 o.p.f.b, .int .u32 o.p.f.n, .int .u32 o.p.t.c, .int .u32 o.p.t.b, .int .u32 o.p.t.n, .int .i64 o.p.n] 34)).drew) (by repeat (first | with_reducible exact Chg.refl _ _ | with_reducible refine Chg.alloc ?_ _ | with_reducible refine Chg.drew ?_ | with_reducible refine Chg.on ?_ _ | ((with_reducible refine Chg.setCell ?_ ?_ _); rotate_left; (first | (focus (left; simp; done)) | (focus (right; simp; done)) | (focus (right; simp; omega)) | (focus (left; simp; omega)))) | ((with_reducible refine Chg.in_ ?_ _ ?_); rotate_left; (first | assumption | exact fun i hi => Or.inl hi | (focus (intro i hi; left; simp [hi]; done)) | (focus (intro i hi; left; simp at hi ⊢; simp [hi]; done)) | (focus (intro i hi; simp at hi ⊢; simp [hi]; done)) | (focus (intro i hi; simp at hi ⊢; omega)))))) HF1.out HW1.out HF2.out HW2.out (Chg.refl _ _)
end Go.Proofs.Ytbkekpfancbemaa
