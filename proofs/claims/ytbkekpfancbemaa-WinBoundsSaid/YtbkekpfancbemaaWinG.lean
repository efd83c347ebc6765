/- Walks: (*Win).out, Ack, Drop, New. -/
import Derived.Test.YtbkekpfancbemaaWinF
namespace Go.Proofs.Ytbkekpfancbemaa
set_option linter.unusedVariables false
set_option linter.unusedSimpArgs false
open Go.RowKit

theorem lay_in {F : List Nat} {W : World} {p : Nat} {most n : Int} {v : Value} {m : Mut} (h : Blk (chg F W m) p [.int .i64 most, .int .i64 n, v] 78) : ∃ z : MutI, chg F W m = lay (chg F W z.m) p [.int .i64 most, .int .i64 z.n, v] 78 := ⟨⟨m, n⟩, (lay_self h).symm⟩

set_option maxRecDepth 100000 in
set_option maxHeartbeats 4000000 in
theorem winOut_any (q : Pc → Bool) {base : Nat} {w : World} {p : Nat} {most : Int} {xs : List Pc} {F : List Nat} (h : WinAt base w p most xs F) (hk : winOk most xs) (fi : Nat) (hE : ∀ args W, (callFunc fi args).run Try.prog W = .ok (.enter fi args) W) (caps : Array Value)
    (HQ : Hid (∀ W' x, Chg F w W' → Calls Try.prog fi (#[x.v] ++ caps) W' (Ret W' (.bool (q x))))) :
    Calls Try.prog 46 #[.pointer (some ⟨p, 0, none⟩), .func (.func fi) #[] caps] w (WDid base w p most F (.int .i64 ((xs.length : Int) - (outW q xs).length)) (outW q xs)) := by
  have hsum : sumN xs ≤ 3000000 := by have := hk.2.1; have := hk.2.2; omega
  have hll := winOk_len hk
  have hlt := h.lt
  obtain ⟨v, h1, h2, h3, h4, rfl⟩ := h
  have hp := h1.lt
  obtain ⟨a, cap, rfl, hs⟩ := Own.slice Pc.cs_len h2
  have hvp : ¬ a.map Addr.block = some p := by cases a with
    | none => simp
    | some ad => simpa [Value.ownBlock] using h4
  have n1 : w.heap.size ∉ p :: (Value.slice a xs.length cap).ownBlock.toList := fun hm => by have := (hlt _ hm).2; omega
  have n2 : w.heap.size + 1 ∉ p :: (Value.slice a xs.length cap).ownBlock.toList := fun hm => by have := (hlt _ hm).2; omega
  have q1 : ¬ w.heap.size = p := by omega
  have q2 : ¬ w.heap.size + 1 = p := by omega
  obtain ⟨F, hF⟩ : ∃ F, F = p :: (Value.slice a xs.length cap).ownBlock.toList := ⟨_, rfl⟩
  rw [← hF] at n1 n2 hlt HQ
  have HF := hid hF
  have c2 := h1.cell 2 rfl
  have f2 := h1.free 2
  have hol := outW_len q xs
  have HD : Hid (∀ W, Chg [] w W → W.cell? ⟨w.heap.size + 1, 0, none⟩ = some (.func (.func fi) #[] caps) → W.cell? ⟨w.heap.size, 0, none⟩ = some (.pointer (some ⟨p, 0, none⟩)) → w.heap.size + 1 < W.heap.size →
      Calls Try.prog 61 #[.slice a xs.length cap, .func (.func 62) #[] #[.pointer (some ⟨w.heap.size + 1, 0, none⟩), .pointer (some ⟨w.heap.size, 0, none⟩)]] W (DelRes q xs base p most (.slice a xs.length cap) F W)) := fun W hc i1 i2 i3 => by
    rw [hF]
    exact deleteP_any q xs hk.1 _ fi hE caps p _ _ most W (hid fun W' x hc' => HQ.out W' x (Chg.then (hc.mono (by simp)) hc' (fun i hi => .inl (by rw [hF]; exact hi)))) i1 i2 i3 (by omega) (by rw [← hF]; exact n2) (by rw [← hF]; exact n1) (h2.chg hc (by simp)) h4 (h1.chg hc (by simp)) hsum
  have H1 := hid h1
  have H2 := hid h2
  have Hlt := hid hlt
  clear h1 h2 hlt hE hs HQ hk hF
  go_enter Try.func46, Try.ntmps46
  go_wp2_with fail
  have HC0 : Hid (∃ z : MutI, ((w.alloc (.cells #[.pointer (some ⟨p, 0, none⟩)] 28)).alloc (.cells #[.func (.func fi) #[] caps] 37)).drew = lay (chg F ((w.alloc (.cells #[.pointer (some ⟨p, 0, none⟩)] 28)).alloc (.cells #[.func (.func fi) #[] caps] 37)).drew z.m) p [.int .i64 most, .int .i64 z.n, .slice a xs.length cap] 78) := by
    obtain ⟨m, hm⟩ := chg_of (Chg.refl F ((w.alloc (.cells #[.pointer (some ⟨p, 0, none⟩)] 28)).alloc (.cells #[.func (.func fi) #[] caps] 37)).drew)
    refine ⟨⟨m, sumN xs⟩, ?_⟩
    show _ = lay (chg F _ m) _ _ _
    rw [← hm, lay_self]
    exact ((H1.out.alloc _).alloc _).drew
  refine M2.wp_region_mixZ (fun w' => ∃ z : MutI, w' = lay (chg F ((w.alloc (.cells #[.pointer (some ⟨p, 0, none⟩)] 28)).alloc (.cells #[.func (.func fi) #[] caps] 37)).drew z.m) p [.int .i64 most, .int .i64 z.n, .slice a xs.length cap] 78) [5, 6, 9] 9 (by kernel_rfl) (by kernel_rfl) (by decide) (HC0.out) ?_
  simp only [List.take_succ_cons, List.take_zero, List.drop_succ_cons, List.drop_zero]
  refine M2.mixL_quiet 5 (by kernel_rfl) ?_
  simp only [List.take_succ_cons, List.take_zero, List.drop_succ_cons, List.drop_zero]
  repeat (go_big_quiet_step (fail))
  refine wpQuiet_nil ?_
  refine M2.mixL_eff rfl ?_
  go_wp2_with ((go_at_call 61; refine (HD.out _ (by repeat (first | with_reducible exact Chg.refl _ _ | with_reducible refine Chg.alloc ?_ _ | with_reducible refine Chg.drew ?_ | with_reducible refine Chg.on ?_ _ | ((with_reducible refine Chg.setCell ?_ ?_ _); rotate_left; (first | (focus (left; simp; done)) | (focus (right; simp; done)) | (focus (right; simp; omega)) | (focus (left; simp; omega)))) | ((with_reducible refine Chg.in_ ?_ _ ?_); rotate_left; (first | assumption | exact fun i hi => Or.inl hi | (focus (intro i hi; left; simp [hi]; done)) | (focus (intro i hi; left; simp at hi ⊢; simp [hi]; done)) | (focus (intro i hi; simp at hi ⊢; simp [hi]; done)) | (focus (intro i hi; simp at hi ⊢; omega)))))) (by go_simp) (by go_simp) (by simp)).mono ?_; rintro _ _ ⟨m, v', rfl, rfl, hB, ho, hv⟩; have g2 := hB.cell 2 rfl; have g3 := hB.free 2; obtain ⟨a', cap', rfl, _⟩ := Own.slice Pc.cs_len ho))
  refine M2.MixQ.mk (by first | exact HC0.out | exact lay_in hB) ?_
  refine M2.mixL_eff rfl ?_
  go_wp2_with ((go_at_call 61; refine (HD.out _ (by repeat (first | with_reducible exact Chg.refl _ _ | with_reducible refine Chg.alloc ?_ _ | with_reducible refine Chg.drew ?_ | with_reducible refine Chg.on ?_ _ | ((with_reducible refine Chg.setCell ?_ ?_ _); rotate_left; (first | (focus (left; simp; done)) | (focus (right; simp; done)) | (focus (right; simp; omega)) | (focus (left; simp; omega)))) | ((with_reducible refine Chg.in_ ?_ _ ?_); rotate_left; (first | assumption | exact fun i hi => Or.inl hi | (focus (intro i hi; left; simp [hi]; done)) | (focus (intro i hi; left; simp at hi ⊢; simp [hi]; done)) | (focus (intro i hi; simp at hi ⊢; simp [hi]; done)) | (focus (intro i hi; simp at hi ⊢; omega)))))) (by go_simp) (by go_simp) (by simp)).mono ?_; rintro _ _ ⟨m, v', rfl, rfl, hB, ho, hv⟩; have g2 := hB.cell 2 rfl; have g3 := hB.free 2; obtain ⟨a', cap', rfl, _⟩ := Own.slice Pc.cs_len ho))
  refine M2.MixQ.mk (by first | exact HC0.out | exact lay_in hB) ?_
  refine M2.mixL_quiet 2 (by kernel_rfl) ?_
  simp only [List.take_succ_cons, List.take_zero, List.drop_succ_cons, List.drop_zero]
  repeat (go_big_quiet_step (fail))
  refine wpQuiet_nil ?_
  refine M2.mixL_nil ?_
  refine M2.mixL_eff rfl ?_
  go_wp2_with ((go_at_call 61; refine (HD.out _ (by repeat (first | with_reducible exact Chg.refl _ _ | with_reducible refine Chg.alloc ?_ _ | with_reducible refine Chg.drew ?_ | with_reducible refine Chg.on ?_ _ | ((with_reducible refine Chg.setCell ?_ ?_ _); rotate_left; (first | (focus (left; simp; done)) | (focus (right; simp; done)) | (focus (right; simp; omega)) | (focus (left; simp; omega)))) | ((with_reducible refine Chg.in_ ?_ _ ?_); rotate_left; (first | assumption | exact fun i hi => Or.inl hi | (focus (intro i hi; left; simp [hi]; done)) | (focus (intro i hi; left; simp at hi ⊢; simp [hi]; done)) | (focus (intro i hi; simp at hi ⊢; simp [hi]; done)) | (focus (intro i hi; simp at hi ⊢; omega)))))) (by go_simp) (by go_simp) (by simp)).mono ?_; rintro _ _ ⟨m, v', rfl, rfl, hB, ho, hv⟩; have g2 := hB.cell 2 rfl; have g3 := hB.free 2; obtain ⟨a', cap', rfl, _⟩ := Own.slice Pc.cs_len ho))
  refine M2.MixQ.mk trivial ?_
  refine M2.mixL_nil ?_
  have HB := hid hB
  have HO := hid ho
  have HV := hid hv
  clear hB ho hv c2 f2
  go_wp2_with fail
  go_ret
  have hB := HB.out
  have ho := HO.out
  have hF := HF.out
  have hsz : IntKind.i64.wrap ((xs.length : Int) - (outW q xs).length) = (xs.length : Int) - (outW q xs).length := IntWalk.i64_in _ ⟨by omega, by omega⟩
  have hne : (Value.slice a' (outW q xs).length cap').ownBlock ≠ some p := by rw [HV.out]; exact h4
  have e : F = p :: (Value.slice a' (outW q xs).length cap').ownBlock.toList := by rw [HV.out]; exact hF
  rw [← hF]
  refine WDid.mk (F' := F) (Chg.setCell (by repeat (first | with_reducible exact Chg.refl _ _ | with_reducible refine Chg.alloc ?_ _ | with_reducible refine Chg.drew ?_ | with_reducible refine Chg.on ?_ _ | ((with_reducible refine Chg.setCell ?_ ?_ _); rotate_left; (first | (focus (left; simp; done)) | (focus (right; simp; done)) | (focus (right; simp; omega)) | (focus (left; simp; omega)))) | ((with_reducible refine Chg.in_ ?_ _ ?_); rotate_left; (first | assumption | exact fun i hi => Or.inl hi | (focus (intro i hi; left; simp [hi]; done)) | (focus (intro i hi; left; simp at hi ⊢; simp [hi]; done)) | (focus (intro i hi; simp at hi ⊢; simp [hi]; done)) | (focus (intro i hi; simp at hi ⊢; omega)))))) (.inl (by rw [hF]; simp)) _) ⟨_, Blk.to (cs' := [.int .i64 most, .int .i64 (sumN (outW q xs)), .slice a xs.length cap].set 2 (.slice a' (outW q xs).length cap')) (by repeat (first | with_reducible assumption | with_reducible refine Blk.alloc ?_ _ | with_reducible refine Blk.drew ?_ | with_reducible refine Blk.on ?_ _ | ((with_reducible refine Blk.chg ?_ (chg_chg _ _ _) ?_); rotate_left; (first | assumption | (focus (simp; done)) | (focus (simp; omega)))) | ((with_reducible refine Blk.set ?_ _ _)) | ((with_reducible refine Blk.set_ne ?_ ?_ _); rotate_left; (first | assumption | (focus (simp; done)) | (focus (simp; omega)))))) rfl, (by repeat (first | with_reducible exact ho | ((with_reducible refine Own.set_ne ?_ ?_ _); rotate_left; (first | assumption | (focus (simp; done)) | (focus (simp [Value.ownBlock]; done)) | (focus (simp [Value.ownBlock]; omega)))) | ((with_reducible refine Own.in_some ?_ _ ?_); rotate_left; (first | assumption | (focus (simp; done)) | (focus (simp; omega)))) | ((with_reducible refine Own.in_one ?_ _ ?_); rotate_left; (first | assumption | (focus (simp [Value.ownBlock]; done)) | (focus (simp [Value.ownBlock]; omega)))) | ((with_reducible refine Own.chg ?_ (chg_chg _ _ _) ?_); rotate_left; (first | assumption | (focus (simp; done)) | (focus (simp; omega)))) | with_reducible refine Own.over ?_ _ | with_reducible refine Own.alloc ?_ _ | with_reducible refine Own.drew ?_ | exact ho)), h3, hne, e⟩ (fun k hk => .inl hk)

set_option maxRecDepth 100000 in
set_option maxHeartbeats 1000000 in
theorem winAck_any {base : Nat} {w : World} {p : Nat} {most : Int} {xs : List Pc} {F : List Nat} (h : WinAt base w p most xs F) (hk : winOk most xs) (s : Int) (to : Pl) :
    Calls Try.prog 19 #[.pointer (some ⟨p, 0, none⟩), .int .u32 s, to.v] w (WDid base w p most F (.int .i64 ((xs.length : Int) - (outW (ackQ s to) xs).length)) (outW (ackQ s to) xs)) := by
  have hlt := h.lt
  have HO : Hid (∀ W, Chg [] w W → W.cell? ⟨w.heap.size, 0, none⟩ = some (.int .u32 s) → W.cell? ⟨w.heap.size + 1, 0, none⟩ = some (.int .u32 to.c) → W.cell? ⟨w.heap.size + 1, 1, none⟩ = some (.int .u32 to.b) → W.cell? ⟨w.heap.size + 1, 2, none⟩ = some (.int .u32 to.n) → w.heap.size + 1 < W.heap.size →
      Calls Try.prog 46 #[.pointer (some ⟨p, 0, none⟩), .func (.func 47) #[] #[.pointer (some ⟨w.heap.size, 0, none⟩), .pointer (some ⟨w.heap.size + 1, 0, none⟩)]] W (WDid base W p most F (.int .i64 ((xs.length : Int) - (outW (ackQ s to) xs).length)) (outW (ackQ s to) xs))) := fun W hc i0 i1 i2 i3 i4 => by
    have n0 : w.heap.size ∉ F := fun hm => by have := (hlt _ hm).2; omega
    have n1 : w.heap.size + 1 ∉ F := fun hm => by have := (hlt _ hm).2; omega
    refine winOut_any (ackQ s to) (h.chg hc (by simp)) hk 47 (fun args W => run_enter Try.func47 (by kernel_rfl) rfl args W) _ (hid fun W' x hc' => ?_)
    obtain ⟨m, rfl⟩ := chg_of hc'
    exact ack1_any s to x w.heap.size (w.heap.size + 1) _ (by rw [cell_chg _ _ _ _ _ (by omega) n0]; exact i0) (by rw [cell_chg _ _ _ _ _ i4 n1]; exact i1) (by rw [cell_chg _ _ _ _ _ i4 n1]; exact i2) (by rw [cell_chg _ _ _ _ _ i4 n1]; exact i3) (by simp; omega) (by simp; omega)
  unfold Pl.v
  clear h hk hlt
  go_enter Try.func19, Try.ntmps19
  go_wp2_with (go_at_call 46; refine (HO.out _ (by repeat (first | with_reducible exact Chg.refl _ _ | with_reducible refine Chg.alloc ?_ _ | with_reducible refine Chg.drew ?_ | with_reducible refine Chg.on ?_ _ | ((with_reducible refine Chg.setCell ?_ ?_ _); rotate_left; (first | (focus (left; simp; done)) | (focus (right; simp; done)) | (focus (right; simp; omega)) | (focus (left; simp; omega)))) | ((with_reducible refine Chg.in_ ?_ _ ?_); rotate_left; (first | assumption | exact fun i hi => Or.inl hi | (focus (intro i hi; left; simp [hi]; done)) | (focus (intro i hi; left; simp at hi ⊢; simp [hi]; done)) | (focus (intro i hi; simp at hi ⊢; simp [hi]; done)) | (focus (intro i hi; simp at hi ⊢; omega)))))) (by go_simp) (by go_simp) (by go_simp) (by go_simp) (by simp)).mono ?_; rintro _ _ ⟨rfl, m, F', rfl, hw, hF'⟩; have HW := hid hw; have HF' := hid hF'; clear hw hF')
  go_ret
  refine WDid.mk (by repeat (first | with_reducible exact Chg.refl _ _ | with_reducible refine Chg.alloc ?_ _ | with_reducible refine Chg.drew ?_ | with_reducible refine Chg.on ?_ _ | ((with_reducible refine Chg.setCell ?_ ?_ _); rotate_left; (first | (focus (left; simp; done)) | (focus (right; simp; done)) | (focus (right; simp; omega)) | (focus (left; simp; omega)))) | ((with_reducible refine Chg.in_ ?_ _ ?_); rotate_left; (first | assumption | exact fun i hi => Or.inl hi | (focus (intro i hi; left; simp [hi]; done)) | (focus (intro i hi; left; simp at hi ⊢; simp [hi]; done)) | (focus (intro i hi; simp at hi ⊢; simp [hi]; done)) | (focus (intro i hi; simp at hi ⊢; omega)))))) HW.out (fun k hk => ?_)
  rcases HF'.out k hk with hk | hk
  · exact .inl hk
  · right; simp at hk; omega

set_option maxRecDepth 100000 in
set_option maxHeartbeats 1000000 in
theorem winDrop_any {base : Nat} {w : World} {p : Nat} {most : Int} {xs : List Pc} {F : List Nat} (h : WinAt base w p most xs F) (hk : winOk most xs) (s : Int) :
    Calls Try.prog 20 #[.pointer (some ⟨p, 0, none⟩), .int .u32 s] w (WDid base w p most F (.int .i64 ((xs.length : Int) - (outW (dropQ s) xs).length)) (outW (dropQ s) xs)) := by
  have hlt := h.lt
  have HO : Hid (∀ W, Chg [] w W → W.cell? ⟨w.heap.size, 0, none⟩ = some (.int .u32 s) → w.heap.size < W.heap.size →
      Calls Try.prog 46 #[.pointer (some ⟨p, 0, none⟩), .func (.func 48) #[] #[.pointer (some ⟨w.heap.size, 0, none⟩)]] W (WDid base W p most F (.int .i64 ((xs.length : Int) - (outW (dropQ s) xs).length)) (outW (dropQ s) xs))) := fun W hc i0 i4 => by
    have n0 : w.heap.size ∉ F := fun hm => by have := (hlt _ hm).2; omega
    refine winOut_any (dropQ s) (h.chg hc (by simp)) hk 48 (fun args W => run_enter Try.func48 (by kernel_rfl) rfl args W) _ (hid fun W' x hc' => ?_)
    obtain ⟨m, rfl⟩ := chg_of hc'
    exact drop1_any s x w.heap.size _ (by rw [cell_chg _ _ _ _ _ (by omega) n0]; exact i0) (by simp; omega)
  clear h hk hlt
  go_enter Try.func20, Try.ntmps20
  go_wp2_with (go_at_call 46; refine (HO.out _ (by repeat (first | with_reducible exact Chg.refl _ _ | with_reducible refine Chg.alloc ?_ _ | with_reducible refine Chg.drew ?_ | with_reducible refine Chg.on ?_ _ | ((with_reducible refine Chg.setCell ?_ ?_ _); rotate_left; (first | (focus (left; simp; done)) | (focus (right; simp; done)) | (focus (right; simp; omega)) | (focus (left; simp; omega)))) | ((with_reducible refine Chg.in_ ?_ _ ?_); rotate_left; (first | assumption | exact fun i hi => Or.inl hi | (focus (intro i hi; left; simp [hi]; done)) | (focus (intro i hi; left; simp at hi ⊢; simp [hi]; done)) | (focus (intro i hi; simp at hi ⊢; simp [hi]; done)) | (focus (intro i hi; simp at hi ⊢; omega)))))) (by go_simp) (by simp)).mono ?_; rintro _ _ ⟨rfl, m, F', rfl, hw, hF'⟩; have HW := hid hw; have HF' := hid hF'; clear hw hF')
  go_ret
  refine WDid.mk (by repeat (first | with_reducible exact Chg.refl _ _ | with_reducible refine Chg.alloc ?_ _ | with_reducible refine Chg.drew ?_ | with_reducible refine Chg.on ?_ _ | ((with_reducible refine Chg.setCell ?_ ?_ _); rotate_left; (first | (focus (left; simp; done)) | (focus (right; simp; done)) | (focus (right; simp; omega)) | (focus (left; simp; omega)))) | ((with_reducible refine Chg.in_ ?_ _ ?_); rotate_left; (first | assumption | exact fun i hi => Or.inl hi | (focus (intro i hi; left; simp [hi]; done)) | (focus (intro i hi; left; simp at hi ⊢; simp [hi]; done)) | (focus (intro i hi; simp at hi ⊢; simp [hi]; done)) | (focus (intro i hi; simp at hi ⊢; omega)))))) HW.out (fun k hk => ?_)
  rcases HF'.out k hk with hk | hk
  · exact .inl hk
  · right; simp at hk; omega

theorem winNew_yes (n : Int) (h1 : 1 ≤ n) (h2 : n ≤ 1048576) (base : Nat) (w : World) (hb : base ≤ w.heap.size) : Calls Try.prog 18 #[.int .i64 n] w fun en w' => en = .returned (.pointer (some ⟨w.heap.size, 0, none⟩)) ∧ w' = w.alloc (.cells #[.int .i64 n, .int .i64 0, .slice none 0 0] 78) := by
  have g1 : decide (n < 1) = false := by simp; omega
  have g2 : decide (1048576 < n) = false := by simp; omega
  go_enter Try.func18, Try.ntmps18
  go_wp2
  go_ret
  exact ⟨rfl, rfl⟩
theorem WinAt.new {base : Nat} {w : World} {n : Int} (hb : base ≤ w.heap.size) : WinAt base (w.alloc (.cells #[.int .i64 n, .int .i64 0, .slice none 0 0] 78)) w.heap.size n [] [w.heap.size] :=
  ⟨.slice none 0 0, Blk.new w [.int .i64 n, .int .i64 0, .slice none 0 0] _, Own.nil _, hb, by simp [Value.ownBlock], rfl⟩
theorem winNew_no (n : Int) (h : n < 1 ∨ 1048576 < n) (w : World) : Calls Try.prog 18 #[.int .i64 n] w fun en w' => en = .returned (.pointer none) ∧ w = w' := by
  by_cases g1 : n < 1
  · go_enter Try.func18, Try.ntmps18
    go_wp2
    go_ret
    exact ⟨rfl, rfl⟩
  · have g2 : 1048576 < n := by omega
    go_enter Try.func18, Try.ntmps18
    go_wp2
    go_ret
    exact ⟨rfl, rfl⟩
end Go.Proofs.Ytbkekpfancbemaa
