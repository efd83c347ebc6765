import Derived.Test.YtnihngljmmbenaaGreatDoorSB
namespace Go.Proofs.YtnihngljmmbenaaGreatDoor
set_option linter.unusedVariables false
set_option linter.unusedSimpArgs false
section
open Go.RowKit

theorem IdxRes.hit {q : Pc → Bool} {xs : List Pc} {p : Nat} {most n : Int} {v : Value} {w w' : World} {i : Nat} (h : i < xs.length) (hc : Chg [p] w w') (h1 : noneTo q xs i) (h2 : q xs[i] = true) (hB : Blk w' p [.int .i64 most, .int .i64 (n - xs[i].n), v] 167) :
    IdxRes q xs p most n v w (.returned (.int .i64 i)) w' := by
  obtain ⟨m, hm⟩ := chg_of hc
  exact ⟨m, hm, .inl ⟨i, h, rfl, h1, h2, hB⟩⟩
theorem IdxRes.miss {q : Pc → Bool} {xs : List Pc} {p : Nat} {most n : Int} {v : Value} {w w' : World} (hc : Chg [p] w w') (h1 : noneTo q xs xs.length) (hB : Blk w' p [.int .i64 most, .int .i64 n, v] 167) :
    IdxRes q xs p most n v w (.returned (.int .i64 (-1))) w' := by
  obtain ⟨m, hm⟩ := chg_of hc
  exact ⟨m, hm, .inr ⟨rfl, h1, hB⟩⟩

set_option maxRecDepth 100000 in
set_option maxHeartbeats 2000000 in
theorem indexP_any (q : Pc → Bool) (xs : List Pc) (hxs : okPs xs) (a : Option Addr) (cap : Nat) (fi : Nat) (hE : ∀ args W, (callFunc fi args).run Tryz.prog W = .ok (.enter fi args) W) (caps : Array Value) (p isb wb : Nat) (most n : Int) (v : Value) (w : World)
    (HQ : Hid (∀ W' x, Chg [p] w W' → Calls Tryz.prog fi (#[x.v] ++ caps) W' (Ret W' (.bool (q x)))))
    (cI : w.cell? ⟨isb, 0, none⟩ = some (.func (.func fi) #[] caps)) (cW : w.cell? ⟨wb, 0, none⟩ = some (.pointer (some ⟨p, 0, none⟩))) (hI : isb < w.heap.size) (hW : wb < w.heap.size) (nI : isb ∉ [p]) (nW : wb ∉ [p])
    (hs : SlP w a cap xs) (hsp : ∀ ad, a = some ad → ad.block ∉ [p]) (hB : Blk w p [.int .i64 most, .int .i64 n, v] 167) (hn : sumN xs ≤ n) (h4 : n ≤ 3000000) :
    Calls Tryz.prog 158 #[.slice a xs.length cap, .func (.func 127) #[] #[.pointer (some ⟨isb, 0, none⟩), .pointer (some ⟨wb, 0, none⟩)]] w (IdxRes q xs p most n v w) := by
  have hmax := len_max hs
  have HB := hid hB
  have HX := hid hxs
  clear hB
  go_enter Tryz.func158, Tryz.ntmps158
  go_wp2
  go_loopw [8] (fun i wr => ∃ (k : Nat) (m : Mut), k ≤ xs.length ∧ i = .int .i64 k ∧ wr = chg [p] w m ∧ Hid (noneTo q xs k) ∧ Hid (Blk wr p [.int .i64 most, .int .i64 n, v] 167)) (fun i _ => xs.length - (intOf i).toNat)
  case atStart =>
    obtain ⟨m, hm⟩ := chg_of (Chg.refl [p] w)
    exact ⟨0, m, Nat.zero_le _, rfl, hm, hid (noneTo_zero _ _), HB⟩
  case round =>
    obtain ⟨k, m, hk, rfl, rfl, hno, hBk⟩ := hrel
    by_cases hlt : k < xs.length
    · obtain ⟨b, off, rfl, hb, c0, c1, c2, c3, c4, c5, c6, c7⟩ := hs.at_ hlt
      have nb := hsp _ rfl
      have hok := HX.out xs[k] (List.getElem_mem hlt)
      have hsum : xs[k].n ≤ n := by
        have h1 := sumN_append (xs.take k) (xs.drop k)
        rw [List.take_append_drop, List.drop_eq_getElem_cons hlt] at h1
        simp only [sumN] at h1
        have h2 := (sumN_nonneg (l := xs.take k) (fun p hp => HX.out p (List.mem_of_mem_take hp))).1
        have h3 := (sumN_nonneg (l := xs.drop (k + 1)) (fun p hp => HX.out p (List.mem_of_mem_drop hp))).1
        omega
      have HO := hid (fun W (hW1 : Ov (chg [p] w m) W) => out1_any fi hE caps (q xs[k]) xs[k] p isb wb most n v W (hid (fun W' hW' => HQ.out W' _ (Chg.then (chg_chg [p] w m) (Chg.of_ov (over_trans hW1 hW') []) (by simp))))
        (by obtain ⟨e, rfl⟩ := hW1; rw [cell_over _ _ _ _ (by simp; omega), cell_chg _ _ _ _ _ hI nI]; exact cI) (by obtain ⟨e, rfl⟩ := hW1; rw [cell_over _ _ _ _ (by simp; omega), cell_chg _ _ _ _ _ hW nW]; exact cW)
        (by obtain ⟨e, rfl⟩ := hW1; simp; omega) (by obtain ⟨e, rfl⟩ := hW1; simp; omega) (hBk.out.chg (Chg.of_ov hW1 []) (by simp)) hok.1 hok.2 (fun _ => hsum) h4)
      unfold Pc.v at HO
      cases hq : q xs[k]
      · have Hq := hid hq
        rw [hq] at HO
        clear hq
        go_wp2_with (go_at_call 127; refine (HO.out _ ovA).mono ?_; rintro _ _ ⟨rfl, m2, rfl, hB2⟩; have HB2 := hid hB2; clear hB2)
        go_roundw
        case rel =>
          obtain ⟨m3, hm3⟩ := chg_of (Chg.then (chg_chg [p] w m) (chg_chg [p] _ m2) (by simp))
          refine ⟨k + 1, m3, by omega, by go_num, hm3, hid (noneTo_succ hno.out hlt Hq.out), hid HB2.out⟩
        case measure => simp [intOf]; omega
      · have Hq := hid hq
        rw [hq] at HO
        clear hq
        go_wp2_with (go_at_call 127; refine (HO.out _ ovA).mono ?_; rintro _ _ ⟨rfl, m2, rfl, hB2⟩; have HB2 := hid hB2; clear hB2)
        go_ret
        exact IdxRes.hit hlt (by repeat (first | with_reducible exact Chg.refl _ _ | (focus (refine ChS.chg ?_; (repeat (first | with_reducible exact ChS.refl _ _ | with_reducible refine ChS.drewl ?_ | with_reducible refine ChS.drewr ?_ | with_reducible refine ChS.over ?_ _ | with_reducible refine chS_chgs ?_ _ | ((with_reducible refine chS_set ?_ _ ?_ _); rotate_left; (first | assumption | (focus (simp; done)) | (focus (simp; assumption)))) | with_reducible refine ChS.alloc ?_ _ | ((with_reducible refine ChS.lit ?_ ?_ _ _); rotate_left; (first | assumption | (focus (simp; done)) | (focus (simp; assumption)))) | with_reducible refine ChS.alloc ?_ _)); done)) | with_reducible refine Chg.alloc ?_ _ | with_reducible refine Chg.drew ?_ | with_reducible refine Chg.on ?_ _ | ((with_reducible refine Chg.setCell ?_ ?_ _); rotate_left; (first | (focus (left; assumption)) | (focus (left; simp; done)) | (focus (right; simp; done)) | (focus (right; simp; omega)) | (focus (left; simp; omega)))) | ((with_reducible refine Chg.in_ ?_ _ ?_); rotate_left; (first | assumption | (focus (intro i hi; left; simp at hi; subst hi; assumption)) | exact fun i hi => Or.inl hi | (focus (intro i hi; left; simp [hi]; done)) | (focus (intro i hi; left; simp at hi ⊢; simp [hi]; done)) | (focus (intro i hi; simp at hi ⊢; simp [hi]; done)) | (focus (intro i hi; simp at hi ⊢; omega)))))) hno.out Hq.out HB2.out
    · obtain rfl : k = xs.length := by omega
      go_wp2_with fail
      go_ret
      exact IdxRes.miss (by repeat (first | with_reducible exact Chg.refl _ _ | (focus (refine ChS.chg ?_; (repeat (first | with_reducible exact ChS.refl _ _ | with_reducible refine ChS.drewl ?_ | with_reducible refine ChS.drewr ?_ | with_reducible refine ChS.over ?_ _ | with_reducible refine chS_chgs ?_ _ | ((with_reducible refine chS_set ?_ _ ?_ _); rotate_left; (first | assumption | (focus (simp; done)) | (focus (simp; assumption)))) | with_reducible refine ChS.alloc ?_ _ | ((with_reducible refine ChS.lit ?_ ?_ _ _); rotate_left; (first | assumption | (focus (simp; done)) | (focus (simp; assumption)))) | with_reducible refine ChS.alloc ?_ _)); done)) | with_reducible refine Chg.alloc ?_ _ | with_reducible refine Chg.drew ?_ | with_reducible refine Chg.on ?_ _ | ((with_reducible refine Chg.setCell ?_ ?_ _); rotate_left; (first | (focus (left; assumption)) | (focus (left; simp; done)) | (focus (right; simp; done)) | (focus (right; simp; omega)) | (focus (left; simp; omega)))) | ((with_reducible refine Chg.in_ ?_ _ ?_); rotate_left; (first | assumption | (focus (intro i hi; left; simp at hi; subst hi; assumption)) | exact fun i hi => Or.inl hi | (focus (intro i hi; left; simp [hi]; done)) | (focus (intro i hi; left; simp at hi ⊢; simp [hi]; done)) | (focus (intro i hi; simp at hi ⊢; simp [hi]; done)) | (focus (intro i hi; simp at hi ⊢; omega)))))) hno.out hBk.out
end
section
open Go.RowKit

theorem outW_snoc (q : Pc → Bool) {xs : List Pc} {k : Nat} (h : k < xs.length) : outW q (xs.take (k + 1)) = outW q (xs.take k) ++ (if q xs[k] then [] else [xs[k]]) := by
  rw [List.take_succ_eq_append_getElem h]
  unfold outW
  rw [List.filter_append]
  cases hq : q xs[k] <;> simp [List.filter_cons, hq]
theorem Own.setPc {base g n cap : Nat} {W : World} {ys : List Pc} (h : Own base 155 8 Pc.cs W (.slice (some ⟨g, 0, none⟩) n cap) ys) {d : Nat} (hd : d < ys.length) (x : Pc) :
    Own base 155 8 Pc.cs ((((((((W.setCell ⟨g, d * 8, none⟩ (.int .u32 x.s)).setCell ⟨g, d * 8 + 1, none⟩ (.int .u32 x.f.c)).setCell ⟨g, d * 8 + 2, none⟩ (.int .u32 x.f.b)).setCell ⟨g, d * 8 + 3, none⟩ (.int .u32 x.f.n)).setCell ⟨g, d * 8 + 4, none⟩ (.int .u32 x.t.c)).setCell ⟨g, d * 8 + 5, none⟩ (.int .u32 x.t.b)).setCell ⟨g, d * 8 + 6, none⟩ (.int .u32 x.t.n)).setCell ⟨g, d * 8 + 7, none⟩ (.int .i64 x.n)) (.slice (some ⟨g, 0, none⟩) n cap) (ys.set d x) :=
  Own.setRec Pc.cs_len h hd x

theorem beq_neg1 (i : Nat) : ((i : Int) == -1) = false := by rw [beq_eq_false_iff_ne]; omega
theorem Chg.setPc {F : List Nat} {a b : World} (h : Chg F a b) {g : Nat} (hg : g ∈ F) (d : Nat) (v0 v1 v2 v3 v4 v5 v6 v7 : Value) :
    Chg F a ((((((((b.setCell ⟨g, d * 8, none⟩ v0).setCell ⟨g, d * 8 + 1, none⟩ v1).setCell ⟨g, d * 8 + 2, none⟩ v2).setCell ⟨g, d * 8 + 3, none⟩ v3).setCell ⟨g, d * 8 + 4, none⟩ v4).setCell ⟨g, d * 8 + 5, none⟩ v5).setCell ⟨g, d * 8 + 6, none⟩ v6).setCell ⟨g, d * 8 + 7, none⟩ v7) :=
  (((((((h.setCell (.inl hg) v0).setCell (.inl hg) v1).setCell (.inl hg) v2).setCell (.inl hg) v3).setCell (.inl hg) v4).setCell (.inl hg) v5).setCell (.inl hg) v6).setCell (.inl hg) v7
theorem Blk.setPc {w : World} {p : Nat} {cs : List Value} {t : TypeId} (h : Blk w p cs t) {g : Nat} (hg : p ≠ g) (d : Nat) (v0 v1 v2 v3 v4 v5 v6 v7 : Value) :
    Blk ((((((((w.setCell ⟨g, d * 8, none⟩ v0).setCell ⟨g, d * 8 + 1, none⟩ v1).setCell ⟨g, d * 8 + 2, none⟩ v2).setCell ⟨g, d * 8 + 3, none⟩ v3).setCell ⟨g, d * 8 + 4, none⟩ v4).setCell ⟨g, d * 8 + 5, none⟩ v5).setCell ⟨g, d * 8 + 6, none⟩ v6).setCell ⟨g, d * 8 + 7, none⟩ v7) p cs t :=
  (((((((h.set_ne hg v0).set_ne hg v1).set_ne hg v2).set_ne hg v3).set_ne hg v4).set_ne hg v5).set_ne hg v6).set_ne hg v7
structure Part (q : Pc → Bool) (xs ys : List Pc) (k d : Nat) : Prop where
  len : ys.length = xs.length
  at_ : d = (outW q (xs.take k)).length
  front : ys.take d = outW q (xs.take k)
  rest : ys.drop k = xs.drop k
theorem Part.start {q : Pc → Bool} {xs : List Pc} {i : Nat} (h : i < xs.length) (h1 : noneTo q xs i) (h2 : q xs[i] = true) : Part q xs xs (i + 1) i := by
  have e : outW q (xs.take (i + 1)) = xs.take i := by rw [outW_snoc q h, h2, noneTo_out h1 (by omega)]; simp
  refine ⟨rfl, ?_, ?_, rfl⟩
  · rw [e, List.length_take]; omega
  · rw [e]
theorem Part.skip {q : Pc → Bool} {xs ys : List Pc} {k d : Nat} (h : Part q xs ys k d) (hk : k < xs.length) (hq : q xs[k] = true) : Part q xs ys (k + 1) d := by
  have e : outW q (xs.take (k + 1)) = outW q (xs.take k) := by rw [outW_snoc q hk, hq]; simp
  refine ⟨h.len, by rw [e]; exact h.at_, by rw [e]; exact h.front, ?_⟩
  rw [← List.drop_drop, ← List.drop_drop, h.rest]
theorem Part.keep {q : Pc → Bool} {xs ys : List Pc} {k d : Nat} (h : Part q xs ys k d) (hk : k < xs.length) (hd : d < k) (hq : q xs[k] = false) : Part q xs (ys.set d xs[k]) (k + 1) (d + 1) := by
  have e : outW q (xs.take (k + 1)) = outW q (xs.take k) ++ [xs[k]] := by rw [outW_snoc q hk, hq]; simp
  have hl := h.len
  refine ⟨by simp [h.len], by rw [e, h.at_]; simp, ?_, ?_⟩
  · rw [e, ← h.front, List.take_succ_eq_append_getElem (by simp; omega), List.take_set_of_le (Nat.le_refl _)]
    simp
  · rw [← List.drop_drop, ← List.drop_drop (l := xs), ← h.rest, List.drop_drop, List.drop_drop]
    rw [List.drop_set_of_lt (by omega)]
theorem Part.get {q : Pc → Bool} {xs ys : List Pc} {k d : Nat} (h : Part q xs ys k d) (hk : k < xs.length) : ys[k]? = some xs[k] := by
  have h1 : (ys.drop k)[0]? = (xs.drop k)[0]? := by rw [h.rest]
  simp only [List.getElem?_drop, Nat.add_zero] at h1
  rw [h1, List.getElem?_eq_getElem hk]
theorem Part.end_ {q : Pc → Bool} {xs ys : List Pc} {d : Nat} (h : Part q xs ys xs.length d) : ys.take d = outW q xs := by
  rw [h.front, List.take_length]

def DelRes (q : Pc → Bool) (xs : List Pc) (base p : Nat) (most : Int) (v : Value) (F : List Nat) (w : World) (en : Ending) (w' : World) : Prop :=
  ∃ m v', w' = chg F w m ∧ en = .returned v' ∧ Blk w' p [.int .i64 most, .int .i64 (sumN (outW q xs)), v] 167 ∧ Own base 155 8 Pc.cs w' v' (outW q xs) ∧ v'.ownBlock = v.ownBlock
theorem DelRes.mk {q : Pc → Bool} {xs : List Pc} {base p : Nat} {most : Int} {v v' : Value} {F : List Nat} {w w' : World} (hc : Chg F w w') (hB : Blk w' p [.int .i64 most, .int .i64 (sumN (outW q xs)), v] 167)
    (ho : Own base 155 8 Pc.cs w' v' (outW q xs)) (hv : v'.ownBlock = v.ownBlock) : DelRes q xs base p most v F w (.returned v') w' := by
  obtain ⟨m, hm⟩ := chg_of hc
  exact ⟨m, v', hm, rfl, hB, ho, hv⟩
theorem noneTo_all {q : Pc → Bool} {xs : List Pc} (h : noneTo q xs xs.length) : outW q xs = xs := by
  have := noneTo_out h (Nat.le_refl _)
  rwa [List.take_length] at this

theorem piece_zero : ∃ z, (∀ w, (zeroValue 155).run Tryz.prog w = .ok z w) ∧ z.cells.size = 8 ∧ ∀ u ∈ z.cells.toList, u.oneCell' = true :=
  ⟨.agg #[.int .u32 0, .int .u32 0, .int .u32 0, .int .u32 0, .int .u32 0, .int .u32 0, .int .u32 0, .int .i64 0], fun w => by kernel_rfl, rfl, by intro u hu; simp [Value.cells] at hu; rcases hu with rfl | rfl <;> rfl⟩

set_option maxRecDepth 100000 in
set_option maxHeartbeats 4000000 in
theorem deleteP_any (q : Pc → Bool) (xs : List Pc) (hxs : okPs xs) {base : Nat} (v : Value) (fi : Nat) (hE : ∀ args W, (callFunc fi args).run Tryz.prog W = .ok (.enter fi args) W) (caps : Array Value) (p isb wb : Nat) (most : Int) (w : World)
    (HQ : Hid (∀ W' x, Chg (p :: v.ownBlock.toList) w W' → Calls Tryz.prog fi (#[x.v] ++ caps) W' (Ret W' (.bool (q x)))))
    (cI : w.cell? ⟨isb, 0, none⟩ = some (.func (.func fi) #[] caps)) (cW : w.cell? ⟨wb, 0, none⟩ = some (.pointer (some ⟨p, 0, none⟩))) (hI : isb < w.heap.size) (hW : wb < w.heap.size) (nI : isb ∉ p :: v.ownBlock.toList) (nW : wb ∉ p :: v.ownBlock.toList)
    (hown : Own base 155 8 Pc.cs w v xs) (hvp : v.ownBlock ≠ some p) (hB : Blk w p [.int .i64 most, .int .i64 (sumN xs), v] 167) (h4 : sumN xs ≤ 3000000) :
    Calls Tryz.prog 126 #[v, .func (.func 127) #[] #[.pointer (some ⟨isb, 0, none⟩), .pointer (some ⟨wb, 0, none⟩)]] w (DelRes q xs base p most v (p :: v.ownBlock.toList) w) := by
  obtain ⟨a, cap, rfl, hs⟩ := Own.slice Pc.cs_len hown
  have hmax := len_max hs
  have nI1 : isb ∉ [p] := by simp at nI ⊢; exact nI.1
  have nW1 : wb ∉ [p] := by simp at nW ⊢; exact nW.1
  have HI := hid (indexP_any q xs hxs a cap fi hE caps p isb wb most (sumN xs) _ w (hid fun W' x hc => HQ.out W' x (hc.mono (by simp))) cI cW hI hW nI1 nW1 hs (fun ad had => by subst had; simpa [Value.ownBlock] using fun h => hvp (by simp [Value.ownBlock, h])) hB (Int.le_refl _) h4)
  have HS := hid h4
  have HO := hid hown
  have hpw := hB.lt
  clear hB h4 hown
  go_enter Tryz.func126, Tryz.ntmps126
  go_wp2_with (go_at_call 158; refine HI.out.mono ?_; rintro _ _ ⟨m, rfl, ⟨i, hi, rfl, hno, hq, hB⟩ | ⟨rfl, hno, hB⟩⟩ <;> (try have hi1 := beq_neg1 i))
  · obtain ⟨g, gc, hv, hg1, hg2, _, _⟩ := Own.open_ Pc.cs_len HO.out (by omega)
    simp only [Value.slice.injEq] at hv
    obtain ⟨rfl, hxy, rfl⟩ := hv
    clear hxy
    have hgp : ¬ g = p := fun h => hvp (by simp [Value.ownBlock, h])
    have hpg : ¬ p = g := fun h => hgp h.symm
    have ng : g ∉ [p] := by simpa using hgp
    simp only [Value.ownBlock, Option.toList] at nI nW HQ
    have HN := hid (Part.start hi hno hq)
    have hib : xs.length ≤ 3000000 := by have := (sumN_nonneg hxs).1; have := HS.out; omega
    have hs0 := hid (show sumN xs - xs[i].n = sumN (outW q (xs.take (i + 1))) + sumN (xs.drop (i + 1)) by
      have h1 := sumN_append (xs.take i) (xs.drop i)
      rw [List.take_append_drop, List.drop_eq_getElem_cons hi] at h1
      rw [outW_snoc q hi, hq, noneTo_out hno (by omega)]
      simp only [sumN, if_true, List.append_nil] at h1 ⊢
      omega)
    have HB := hid hB
    clear hno hq hB
    go_wp2_with fail
    go_loopw [5, 6] (fun i j wr => ∃ (k d : Nat) (ys : List Pc), k ≤ xs.length ∧ d + 1 ≤ k ∧ j = .int .i64 k ∧ i = .int .i64 d ∧ Cls [p, g] w wr ∧ Hid (Part q xs ys k d) ∧ Own base 155 8 Pc.cs wr (.slice (some ⟨g, 0, none⟩) xs.length cap) ys ∧
      Hid (Blk wr p [.int .i64 most, .int .i64 (sumN (outW q (xs.take k)) + sumN (xs.drop k)), .slice (some ⟨g, 0, none⟩) xs.length cap] 167)) (fun _ j _ => xs.length - (intOf j).toNat)
    case atStart =>
      have h1 := HO.out
      exact ⟨i + 1, i, xs, by omega, by omega, by go_num, rfl, Cls.of (by repeat (first | with_reducible exact Chg.refl _ _ | (focus (refine ChS.chg ?_; (repeat (first | with_reducible exact ChS.refl _ _ | with_reducible refine ChS.drewl ?_ | with_reducible refine ChS.drewr ?_ | with_reducible refine ChS.over ?_ _ | with_reducible refine chS_chgs ?_ _ | ((with_reducible refine chS_set ?_ _ ?_ _); rotate_left; (first | assumption | (focus (simp; done)) | (focus (simp; assumption)))) | with_reducible refine ChS.alloc ?_ _ | ((with_reducible refine ChS.lit ?_ ?_ _ _); rotate_left; (first | assumption | (focus (simp; done)) | (focus (simp; assumption)))) | with_reducible refine ChS.alloc ?_ _)); done)) | with_reducible refine Chg.alloc ?_ _ | with_reducible refine Chg.drew ?_ | with_reducible refine Chg.on ?_ _ | ((with_reducible refine Chg.setCell ?_ ?_ _); rotate_left; (first | (focus (left; assumption)) | (focus (left; simp; done)) | (focus (right; simp; done)) | (focus (right; simp; omega)) | (focus (left; simp; omega)))) | ((with_reducible refine Chg.in_ ?_ _ ?_); rotate_left; (first | assumption | (focus (intro i hi; left; simp at hi; subst hi; assumption)) | exact fun i hi => Or.inl hi | (focus (intro i hi; left; simp [hi]; done)) | (focus (intro i hi; left; simp at hi ⊢; simp [hi]; done)) | (focus (intro i hi; simp at hi ⊢; simp [hi]; done)) | (focus (intro i hi; simp at hi ⊢; omega)))))), HN, (by exact ownA h1), hid (by rw [← hs0.out]; exact HB.out)⟩
    case round =>
      obtain ⟨k, d, ys, hk, hdk, rfl, rfl, ⟨m2, rfl⟩, HP, hown, HBk⟩ := hrel
      clear HB HI HN m
      by_cases hlt : k < xs.length
      · have hyl := HP.out.len
        have hplt : p < w.heap.size := by exact hpw
        have nN : ¬ (w.heap.size + m2.e.heap.size = p) := by omega
        obtain ⟨g', gc, hv, _, _, r0, fr⟩ := Own.open_ Pc.cs_len hown (by omega)
        simp only [Value.slice.injEq, Option.some.injEq, Addr.mk.injEq] at hv
        obtain ⟨⟨rfl, _, _⟩, hxy, rfl⟩ := hv
        clear hxy
        have hyk := HP.out.get hlt
        obtain ⟨x, hx⟩ : ∃ x, x = xs[k] := ⟨_, rfl⟩
        rw [← hx] at hyk
        have c0 := r0 k x hyk 0 _ rfl
        have c1 := r0 k x hyk 1 _ rfl
        have c2 := r0 k x hyk 2 _ rfl
        have c3 := r0 k x hyk 3 _ rfl
        have c4 := r0 k x hyk 4 _ rfl
        have c5 := r0 k x hyk 5 _ rfl
        have c6 := r0 k x hyk 6 _ rfl
        have c7 := r0 k x hyk 7 _ rfl
        simp only [Nat.add_zero] at c0
        have hok := hxs _ (List.getElem_mem hlt)
        rw [← hx] at hok
        have hsm := hid (show sumN (xs.drop k) = x.n + sumN (xs.drop (k + 1)) by rw [List.drop_eq_getElem_cons hlt, ← hx]; rfl)
        have hs1 := (sumN_nonneg (l := outW q (xs.take k)) (okPs_out (fun p hp => hxs p (List.mem_of_mem_take hp)))).1
        have hs2 := (sumN_nonneg (l := xs.drop (k + 1)) (fun p hp => hxs p (List.mem_of_mem_drop hp))).1
        have hle : sumN (outW q (xs.take k)) + sumN (xs.drop k) ≤ 3000000 := by
          have h1 := sumN_append (xs.take k) (xs.drop k)
          rw [List.take_append_drop] at h1
          have h2 := sumN_out q (l := xs.take k) (fun p hp => hxs p (List.mem_of_mem_take hp))
          have := HS.out; omega
        have HX := hid hx
        have HO1 := hid (fun W (hW1 : Ov (chg [p, g] w m2) W) => out1_any fi hE caps (q x) x p isb wb most (sumN (outW q (xs.take k)) + sumN (xs.drop k)) (.slice (some ⟨g, 0, none⟩) xs.length cap) W (hid (fun W' hW' => HQ.out W' _ (Chg.then (chg_chg [p, g] w m2) (Chg.of_ov (over_trans hW1 hW') []) (by simp))))
          (by obtain ⟨e, rfl⟩ := hW1; rw [cell_over _ _ _ _ (by simp; omega), cell_chg _ _ _ _ _ hI nI]; exact cI) (by obtain ⟨e, rfl⟩ := hW1; rw [cell_over _ _ _ _ (by simp; omega), cell_chg _ _ _ _ _ hW nW]; exact cW)
          (by obtain ⟨e, rfl⟩ := hW1; simp; omega) (by obtain ⟨e, rfl⟩ := hW1; simp; omega) (HBk.out.chg (Chg.of_ov hW1 []) (by simp)) hok.1 hok.2 (fun _ => by have := hsm.out; omega) hle)
        unfold Pc.v at HO1
        have Hyl := hid hyl
        clear hx r0 hle hyk hyl
        cases hq : q x
        · have Hq := hid hq
          rw [hq] at HO1
          clear hq
          obtain ⟨y, hy⟩ : ∃ y, ys[d]? = some y := ⟨_, List.getElem?_eq_getElem (by have := Hyl.out; omega)⟩
          obtain ⟨_, _, hv, _, _, r0, fr⟩ := Own.open_ Pc.cs_len hown (by have := Hyl.out; omega)
          simp only [Value.slice.injEq, Option.some.injEq, Addr.mk.injEq] at hv
          obtain ⟨⟨rfl, _, _⟩, hxy, rfl⟩ := hv
          clear hxy
          have d0 := r0 d y hy 0 _ rfl
          have d1 := r0 d y hy 1 _ rfl
          have d2 := r0 d y hy 2 _ rfl
          have d3 := r0 d y hy 3 _ rfl
          have d4 := r0 d y hy 4 _ rfl
          have d5 := r0 d y hy 5 _ rfl
          have d6 := r0 d y hy 6 _ rfl
          have d7 := r0 d y hy 7 _ rfl
          simp only [Nat.add_zero] at d0
          clear r0 hy
          go_wp2_with (go_at_call 127; refine (HO1.out _ ovA).mono ?_; rintro _ _ ⟨rfl, m3, rfl, hB2⟩; have HB2 := hid hB2; clear hB2)
          go_roundw
          case rel =>
            have hqk : q xs[k] = false := by rw [← HX.out]; exact Hq.out
            have hsum : sumN (outW q (xs.take k)) + sumN (xs.drop k) = sumN (outW q (xs.take (k + 1))) + sumN (xs.drop (k + 1)) := by
              rw [outW_snoc q hlt, hqk, hsm.out, sumN_append, ← HX.out]; simp [sumN]; omega
            refine ⟨k + 1, d + 1, ys.set d x, by omega, by omega, by go_num, by go_num, Cls.of (Chg.setPc (Chg.then ((chg_chg [p, g] w m2).alloc _) (chg_chg [p] _ m3) (by simp)) (by simp) d _ _ _ _ _ _ _ _), hid (by rw [HX.out]; exact HP.out.keep hlt (by omega) hqk), ?_, hid ?_⟩
            · refine Own.setPc ?_ (by have := Hyl.out; omega) x
              exact (by exact ownA hown)
            · rw [← hsum]
              exact Blk.setPc HB2.out hpg d _ _ _ _ _ _ _ _
          case measure => simp [intOf]; omega
        · have Hq := hid hq
          rw [hq] at HO1
          clear hq fr
          go_wp2_with (go_at_call 127; refine (HO1.out _ ovA).mono ?_; rintro _ _ ⟨rfl, m3, rfl, hB2⟩; have HB2 := hid hB2; clear hB2)
          go_roundw
          case rel =>
            have hqk : q xs[k] = true := by rw [← HX.out]; exact Hq.out
            have hsum : sumN (outW q (xs.take k)) + sumN (xs.drop k) - x.n = sumN (outW q (xs.take (k + 1))) + sumN (xs.drop (k + 1)) := by
              rw [outW_snoc q hlt, hqk, if_pos rfl, List.append_nil, hsm.out]; omega
            refine ⟨k + 1, d, ys, by omega, by omega, by go_num, rfl, Cls.of (by repeat (first | with_reducible exact Chg.refl _ _ | (focus (refine ChS.chg ?_; (repeat (first | with_reducible exact ChS.refl _ _ | with_reducible refine ChS.drewl ?_ | with_reducible refine ChS.drewr ?_ | with_reducible refine ChS.over ?_ _ | with_reducible refine chS_chgs ?_ _ | ((with_reducible refine chS_set ?_ _ ?_ _); rotate_left; (first | assumption | (focus (simp; done)) | (focus (simp; assumption)))) | with_reducible refine ChS.alloc ?_ _ | ((with_reducible refine ChS.lit ?_ ?_ _ _); rotate_left; (first | assumption | (focus (simp; done)) | (focus (simp; assumption)))) | with_reducible refine ChS.alloc ?_ _)); done)) | with_reducible refine Chg.alloc ?_ _ | with_reducible refine Chg.drew ?_ | with_reducible refine Chg.on ?_ _ | ((with_reducible refine Chg.setCell ?_ ?_ _); rotate_left; (first | (focus (left; assumption)) | (focus (left; simp; done)) | (focus (right; simp; done)) | (focus (right; simp; omega)) | (focus (left; simp; omega)))) | ((with_reducible refine Chg.in_ ?_ _ ?_); rotate_left; (first | assumption | (focus (intro i hi; left; simp at hi; subst hi; assumption)) | exact fun i hi => Or.inl hi | (focus (intro i hi; left; simp [hi]; done)) | (focus (intro i hi; left; simp at hi ⊢; simp [hi]; done)) | (focus (intro i hi; simp at hi ⊢; simp [hi]; done)) | (focus (intro i hi; simp at hi ⊢; omega)))))), hid (HP.out.skip hlt hqk), (by exact ownA hown), hid (by rw [← hsum]; exact HB2.out)⟩
          case measure => simp [intOf]; omega
      · obtain rfl : k = xs.length := by omega
        have hd : d < xs.length := by omega
        have hcd : ¬ cap = d := by have := hs.le; omega
        have hcd1 : d < cap := by have := hs.le; omega
        have hle := hs.le
        obtain ⟨vs, hvs⟩ := run_clear_rows piece_elem Pc.cs_len piece_zero hown (i := d) (by rw [HP.out.len]; exact hd) (cap - d) 0
        rw [HP.out.len] at hvs
        have HV := hid hvs
        clear hvs
        go_wp2_with (refine wpList_clear (t := 151) rfl (.tmp 38) rfl rfl HV.out ?_)
        go_ret
        have e := HP.out.end_
        have hl := HP.out.len
        have hc : Chg [p, g] w ((chg [p, g] w m2).setCells g (d * 8) vs) := Chg.setCells (.inl (by simp)) vs _ _ (chg_chg _ _ _)
        have hc2 : Chg [g] (chg [p, g] w m2) ((chg [p, g] w m2).setCells g (d * 8) vs) := Chg.setCells (.inl (by simp)) vs _ _ (Chg.refl _ _)
        refine DelRes.mk (v' := .slice (some ⟨g, 0, none⟩) d cap) hc ?_ ?_ rfl
        · have h1 := HBk.out
          rw [List.take_length, List.drop_length] at h1
          simp only [sumN, Int.add_zero] at h1
          exact h1.chg hc2 (by simpa using hpg)
        · rw [← e]
          refine Own.setCells_past Pc.cs_len vs _ _ (Own.cut Pc.cs_len hown (by omega)) ?_
          rw [List.length_take]; omega
  · have HN := hid hno
    have HB := hid hB
    clear hno hB
    go_wp2_with fail
    go_ret
    have e := noneTo_all HN.out
    have h1 := HO.out
    exact DelRes.mk (v' := .slice a xs.length cap) (by repeat (first | with_reducible exact Chg.refl _ _ | (focus (refine ChS.chg ?_; (repeat (first | with_reducible exact ChS.refl _ _ | with_reducible refine ChS.drewl ?_ | with_reducible refine ChS.drewr ?_ | with_reducible refine ChS.over ?_ _ | with_reducible refine chS_chgs ?_ _ | ((with_reducible refine chS_set ?_ _ ?_ _); rotate_left; (first | assumption | (focus (simp; done)) | (focus (simp; assumption)))) | with_reducible refine ChS.alloc ?_ _ | ((with_reducible refine ChS.lit ?_ ?_ _ _); rotate_left; (first | assumption | (focus (simp; done)) | (focus (simp; assumption)))) | with_reducible refine ChS.alloc ?_ _)); done)) | with_reducible refine Chg.alloc ?_ _ | with_reducible refine Chg.drew ?_ | with_reducible refine Chg.on ?_ _ | ((with_reducible refine Chg.setCell ?_ ?_ _); rotate_left; (first | (focus (left; assumption)) | (focus (left; simp; done)) | (focus (right; simp; done)) | (focus (right; simp; omega)) | (focus (left; simp; omega)))) | ((with_reducible refine Chg.in_ ?_ _ ?_); rotate_left; (first | assumption | (focus (intro i hi; left; simp at hi; subst hi; assumption)) | exact fun i hi => Or.inl hi | (focus (intro i hi; left; simp [hi]; done)) | (focus (intro i hi; left; simp at hi ⊢; simp [hi]; done)) | (focus (intro i hi; simp at hi ⊢; simp [hi]; done)) | (focus (intro i hi; simp at hi ⊢; omega)))))) (by rw [e]; exact HB.out) (by rw [e]; exact (by exact ownA h1)) rfl
end
section
open Go.RowKit

theorem lay_in {F : List Nat} {W : World} {p : Nat} {most n : Int} {v : Value} {m : Mut} (h : Blk (chg F W m) p [.int .i64 most, .int .i64 n, v] 167) : ∃ z : MutI, chg F W m = lay (chg F W z.m) p [.int .i64 most, .int .i64 z.n, v] 167 := ⟨⟨m, n⟩, (lay_self h).symm⟩

set_option maxRecDepth 100000 in
set_option maxHeartbeats 4000000 in
theorem winOut_any (q : Pc → Bool) {base : Nat} {w : World} {p : Nat} {most : Int} {xs : List Pc} {F : List Nat} (h : WinAt base w p most xs F) (hk : winOk most xs) (fi : Nat) (hE : ∀ args W, (callFunc fi args).run Tryz.prog W = .ok (.enter fi args) W) (caps : Array Value)
    (HQ : Hid (∀ W' x, Chg F w W' → Calls Tryz.prog fi (#[x.v] ++ caps) W' (Ret W' (.bool (q x))))) :
    Calls Tryz.prog 91 #[.pointer (some ⟨p, 0, none⟩), .func (.func fi) #[] caps] w (WDid base w p most F (.int .i64 ((xs.length : Int) - (outW q xs).length)) (outW q xs)) := by
  have hsum : sumN xs ≤ 3000000 := by have := hk.2.1; have := hk.2.2; omega
  have hll := winOk_len hk
  have hlt := h.lt
  obtain ⟨v, h1, h2, h3, h4, rfl⟩ := h
  have hp := h1.lt
  obtain ⟨a, cap, rfl, hs⟩ := Own.slice Pc.cs_len h2
  have hvp : ¬ a.map Addr.block = some p := by cases a with
    | none => simp
    | some ad => simpa [Value.ownBlock] using h4
  have n1 : w.heap.size ∉ p :: (Value.slice a xs.length cap).ownBlock.toList := fun hm => by have := (hlt _ hm).2; omega
  have n2 : w.heap.size + 1 ∉ p :: (Value.slice a xs.length cap).ownBlock.toList := fun hm => by have := (hlt _ hm).2; omega
  have q1 : ¬ w.heap.size = p := by omega
  have q2 : ¬ w.heap.size + 1 = p := by omega
  obtain ⟨F, hF⟩ : ∃ F, F = p :: (Value.slice a xs.length cap).ownBlock.toList := ⟨_, rfl⟩
  rw [← hF] at n1 n2 hlt HQ
  have HF := hid hF
  have c2 := h1.cell 2 rfl
  have f2 := h1.free 2
  have hol := outW_len q xs
  have HD : Hid (∀ W, Chg [] w W → W.cell? ⟨w.heap.size + 1, 0, none⟩ = some (.func (.func fi) #[] caps) → W.cell? ⟨w.heap.size, 0, none⟩ = some (.pointer (some ⟨p, 0, none⟩)) → w.heap.size + 1 < W.heap.size →
      Calls Tryz.prog 126 #[.slice a xs.length cap, .func (.func 127) #[] #[.pointer (some ⟨w.heap.size + 1, 0, none⟩), .pointer (some ⟨w.heap.size, 0, none⟩)]] W (DelRes q xs base p most (.slice a xs.length cap) F W)) := fun W hc i1 i2 i3 => by
    rw [hF]
    exact deleteP_any q xs hk.1 _ fi hE caps p _ _ most W (hid fun W' x hc' => HQ.out W' x (Chg.then (hc.mono (by simp)) hc' (fun i hi => .inl (by rw [hF]; exact hi)))) i1 i2 i3 (by omega) (by rw [← hF]; exact n2) (by rw [← hF]; exact n1) (h2.chg hc (by simp)) h4 (h1.chg hc (by simp)) hsum
  have H1 := hid h1
  have H2 := hid h2
  have Hlt := hid hlt
  clear h1 h2 hlt hE hs HQ hk hF
  go_enter Tryz.func91, Tryz.ntmps91
  go_wp2_with fail
  have HC0 : Hid (∃ z : MutI, ((w.alloc (.cells #[.pointer (some ⟨p, 0, none⟩)] 92)).alloc (.cells #[.func (.func fi) #[] caps] 177)).drew = lay (chg F ((w.alloc (.cells #[.pointer (some ⟨p, 0, none⟩)] 92)).alloc (.cells #[.func (.func fi) #[] caps] 177)).drew z.m) p [.int .i64 most, .int .i64 z.n, .slice a xs.length cap] 167) := by
    obtain ⟨m, hm⟩ := chg_of (Chg.refl F ((w.alloc (.cells #[.pointer (some ⟨p, 0, none⟩)] 92)).alloc (.cells #[.func (.func fi) #[] caps] 177)).drew)
    refine ⟨⟨m, sumN xs⟩, ?_⟩
    show _ = lay (chg F _ m) _ _ _
    rw [← hm, lay_self]
    exact ((H1.out.alloc _).alloc _).drew
  refine M2.wp_region_mixZ (fun w' => ∃ z : MutI, w' = lay (chg F ((w.alloc (.cells #[.pointer (some ⟨p, 0, none⟩)] 92)).alloc (.cells #[.func (.func fi) #[] caps] 177)).drew z.m) p [.int .i64 most, .int .i64 z.n, .slice a xs.length cap] 167) [5, 6, 9] 9 (by kernel_rfl) (by kernel_rfl) (by decide) (HC0.out) ?_
  simp only [M2.td]
  with_reducible refine M2.mixL_quiet 5 (by kernel_rfl) ?_
  simp only [M2.td]
  repeat (go_big_quiet_step (fail))
  with_reducible refine wpQuiet_nil ?_
  with_reducible refine M2.mixL_eff (by decide) ?_
  go_wp2_with (fail)
  refine M2.MixQ.mk (by first | exact HC0.out | exact lay_in hB) ?_
  with_reducible refine M2.mixL_eff (by decide) ?_
  go_wp2_with ((go_at_call 126; refine (HD.out _ (by repeat (first | with_reducible exact Chg.refl _ _ | (focus (refine ChS.chg ?_; (repeat (first | with_reducible exact ChS.refl _ _ | with_reducible refine ChS.drewl ?_ | with_reducible refine ChS.drewr ?_ | with_reducible refine ChS.over ?_ _ | with_reducible refine chS_chgs ?_ _ | ((with_reducible refine chS_set ?_ _ ?_ _); rotate_left; (first | assumption | (focus (simp; done)) | (focus (simp; assumption)))) | with_reducible refine ChS.alloc ?_ _ | ((with_reducible refine ChS.lit ?_ ?_ _ _); rotate_left; (first | assumption | (focus (simp; done)) | (focus (simp; assumption)))) | with_reducible refine ChS.alloc ?_ _)); done)) | with_reducible refine Chg.alloc ?_ _ | with_reducible refine Chg.drew ?_ | with_reducible refine Chg.on ?_ _ | ((with_reducible refine Chg.setCell ?_ ?_ _); rotate_left; (first | (focus (left; assumption)) | (focus (left; simp; done)) | (focus (right; simp; done)) | (focus (right; simp; omega)) | (focus (left; simp; omega)))) | ((with_reducible refine Chg.in_ ?_ _ ?_); rotate_left; (first | assumption | (focus (intro i hi; left; simp at hi; subst hi; assumption)) | exact fun i hi => Or.inl hi | (focus (intro i hi; left; simp [hi]; done)) | (focus (intro i hi; left; simp at hi ⊢; simp [hi]; done)) | (focus (intro i hi; simp at hi ⊢; simp [hi]; done)) | (focus (intro i hi; simp at hi ⊢; omega)))))) (by go_simp) (by go_simp) (by simp)).mono ?_; rintro _ _ ⟨m, v', rfl, rfl, hB, ho, hv⟩; have g2 := hB.cell 2 rfl; have g3 := hB.free 2; obtain ⟨a', cap', rfl, _⟩ := Own.slice Pc.cs_len ho))
  refine M2.MixQ.mk (by first | exact HC0.out | exact lay_in hB) ?_
  with_reducible refine M2.mixL_quiet 2 (by kernel_rfl) ?_
  simp only [M2.td]
  repeat (go_big_quiet_step (fail))
  with_reducible refine wpQuiet_nil ?_
  with_reducible refine M2.mixL_nil ?_
  with_reducible refine M2.mixL_eff (by decide) ?_
  go_wp2_with (fail)
  refine M2.MixQ.mk trivial ?_
  with_reducible refine M2.mixL_nil ?_
  have HB := hid hB
  have HO := hid ho
  have HV := hid hv
  clear hB ho hv c2 f2
  go_wp2_with fail
  go_ret
  have hB := HB.out
  have ho := HO.out
  have hF := HF.out
  have hsz : IntKind.i64.wrap ((xs.length : Int) - (outW q xs).length) = (xs.length : Int) - (outW q xs).length := IntWalk.i64_in _ ⟨by omega, by omega⟩
  have hne : (Value.slice a' (outW q xs).length cap').ownBlock ≠ some p := by rw [HV.out]; exact h4
  have e : F = p :: (Value.slice a' (outW q xs).length cap').ownBlock.toList := by rw [HV.out]; exact hF
  rw [← hF]
  refine WDid.mk (F' := F) (Chg.setCell (by repeat (first | with_reducible exact Chg.refl _ _ | (focus (refine ChS.chg ?_; (repeat (first | with_reducible exact ChS.refl _ _ | with_reducible refine ChS.drewl ?_ | with_reducible refine ChS.drewr ?_ | with_reducible refine ChS.over ?_ _ | with_reducible refine chS_chgs ?_ _ | ((with_reducible refine chS_set ?_ _ ?_ _); rotate_left; (first | assumption | (focus (simp; done)) | (focus (simp; assumption)))) | with_reducible refine ChS.alloc ?_ _ | ((with_reducible refine ChS.lit ?_ ?_ _ _); rotate_left; (first | assumption | (focus (simp; done)) | (focus (simp; assumption)))) | with_reducible refine ChS.alloc ?_ _)); done)) | with_reducible refine Chg.alloc ?_ _ | with_reducible refine Chg.drew ?_ | with_reducible refine Chg.on ?_ _ | ((with_reducible refine Chg.setCell ?_ ?_ _); rotate_left; (first | (focus (left; assumption)) | (focus (left; simp; done)) | (focus (right; simp; done)) | (focus (right; simp; omega)) | (focus (left; simp; omega)))) | ((with_reducible refine Chg.in_ ?_ _ ?_); rotate_left; (first | assumption | (focus (intro i hi; left; simp at hi; subst hi; assumption)) | exact fun i hi => Or.inl hi | (focus (intro i hi; left; simp [hi]; done)) | (focus (intro i hi; left; simp at hi ⊢; simp [hi]; done)) | (focus (intro i hi; simp at hi ⊢; simp [hi]; done)) | (focus (intro i hi; simp at hi ⊢; omega)))))) (.inl (by rw [hF]; simp)) _) ⟨_, Blk.to (cs' := [.int .i64 most, .int .i64 (sumN (outW q xs)), .slice a xs.length cap].set 2 (.slice a' (outW q xs).length cap')) (by exact bkA) rfl, (by exact ownA ho), h3, hne, e⟩ (fun k hk => .inl hk)

set_option maxRecDepth 100000 in
set_option maxHeartbeats 1000000 in
theorem winAck_any {base : Nat} {w : World} {p : Nat} {most : Int} {xs : List Pc} {F : List Nat} (h : WinAt base w p most xs F) (hk : winOk most xs) (s : Int) (to : Pw) :
    Calls Tryz.prog 54 #[.pointer (some ⟨p, 0, none⟩), .int .u32 s, to.v] w (WDid base w p most F (.int .i64 ((xs.length : Int) - (outW (ackQ s to) xs).length)) (outW (ackQ s to) xs)) := by
  have hlt := h.lt
  have HO : Hid (∀ W, Chg [] w W → W.cell? ⟨w.heap.size, 0, none⟩ = some (.int .u32 s) → W.cell? ⟨w.heap.size + 1, 0, none⟩ = some (.int .u32 to.c) → W.cell? ⟨w.heap.size + 1, 1, none⟩ = some (.int .u32 to.b) → W.cell? ⟨w.heap.size + 1, 2, none⟩ = some (.int .u32 to.n) → w.heap.size + 1 < W.heap.size →
      Calls Tryz.prog 91 #[.pointer (some ⟨p, 0, none⟩), .func (.func 92) #[] #[.pointer (some ⟨w.heap.size, 0, none⟩), .pointer (some ⟨w.heap.size + 1, 0, none⟩)]] W (WDid base W p most F (.int .i64 ((xs.length : Int) - (outW (ackQ s to) xs).length)) (outW (ackQ s to) xs))) := fun W hc i0 i1 i2 i3 i4 => by
    have n0 : w.heap.size ∉ F := fun hm => by have := (hlt _ hm).2; omega
    have n1 : w.heap.size + 1 ∉ F := fun hm => by have := (hlt _ hm).2; omega
    refine winOut_any (ackQ s to) (h.chg hc (by simp)) hk 92 (fun args W => run_enter Tryz.func92 (by kernel_rfl) rfl args W) _ (hid fun W' x hc' => ?_)
    obtain ⟨m, rfl⟩ := chg_of hc'
    exact ack1_any s to x w.heap.size (w.heap.size + 1) _ (by rw [cell_chg _ _ _ _ _ (by omega) n0]; exact i0) (by rw [cell_chg _ _ _ _ _ i4 n1]; exact i1) (by rw [cell_chg _ _ _ _ _ i4 n1]; exact i2) (by rw [cell_chg _ _ _ _ _ i4 n1]; exact i3) (by simp; omega) (by simp; omega)
  unfold Pw.v
  clear h hk hlt
  go_enter Tryz.func54, Tryz.ntmps54
  go_wp2_with (go_at_call 91; refine (HO.out _ (by repeat (first | with_reducible exact Chg.refl _ _ | (focus (refine ChS.chg ?_; (repeat (first | with_reducible exact ChS.refl _ _ | with_reducible refine ChS.drewl ?_ | with_reducible refine ChS.drewr ?_ | with_reducible refine ChS.over ?_ _ | with_reducible refine chS_chgs ?_ _ | ((with_reducible refine chS_set ?_ _ ?_ _); rotate_left; (first | assumption | (focus (simp; done)) | (focus (simp; assumption)))) | with_reducible refine ChS.alloc ?_ _ | ((with_reducible refine ChS.lit ?_ ?_ _ _); rotate_left; (first | assumption | (focus (simp; done)) | (focus (simp; assumption)))) | with_reducible refine ChS.alloc ?_ _)); done)) | with_reducible refine Chg.alloc ?_ _ | with_reducible refine Chg.drew ?_ | with_reducible refine Chg.on ?_ _ | ((with_reducible refine Chg.setCell ?_ ?_ _); rotate_left; (first | (focus (left; assumption)) | (focus (left; simp; done)) | (focus (right; simp; done)) | (focus (right; simp; omega)) | (focus (left; simp; omega)))) | ((with_reducible refine Chg.in_ ?_ _ ?_); rotate_left; (first | assumption | (focus (intro i hi; left; simp at hi; subst hi; assumption)) | exact fun i hi => Or.inl hi | (focus (intro i hi; left; simp [hi]; done)) | (focus (intro i hi; left; simp at hi ⊢; simp [hi]; done)) | (focus (intro i hi; simp at hi ⊢; simp [hi]; done)) | (focus (intro i hi; simp at hi ⊢; omega)))))) (by go_simp) (by go_simp) (by go_simp) (by go_simp) (by simp)).mono ?_; rintro _ _ ⟨rfl, m, F', rfl, hw, hF'⟩; have HW := hid hw; have HF' := hid hF'; clear hw hF')
  go_ret
  refine WDid.mk (by repeat (first | with_reducible exact Chg.refl _ _ | (focus (refine ChS.chg ?_; (repeat (first | with_reducible exact ChS.refl _ _ | with_reducible refine ChS.drewl ?_ | with_reducible refine ChS.drewr ?_ | with_reducible refine ChS.over ?_ _ | with_reducible refine chS_chgs ?_ _ | ((with_reducible refine chS_set ?_ _ ?_ _); rotate_left; (first | assumption | (focus (simp; done)) | (focus (simp; assumption)))) | with_reducible refine ChS.alloc ?_ _ | ((with_reducible refine ChS.lit ?_ ?_ _ _); rotate_left; (first | assumption | (focus (simp; done)) | (focus (simp; assumption)))) | with_reducible refine ChS.alloc ?_ _)); done)) | with_reducible refine Chg.alloc ?_ _ | with_reducible refine Chg.drew ?_ | with_reducible refine Chg.on ?_ _ | ((with_reducible refine Chg.setCell ?_ ?_ _); rotate_left; (first | (focus (left; assumption)) | (focus (left; simp; done)) | (focus (right; simp; done)) | (focus (right; simp; omega)) | (focus (left; simp; omega)))) | ((with_reducible refine Chg.in_ ?_ _ ?_); rotate_left; (first | assumption | (focus (intro i hi; left; simp at hi; subst hi; assumption)) | exact fun i hi => Or.inl hi | (focus (intro i hi; left; simp [hi]; done)) | (focus (intro i hi; left; simp at hi ⊢; simp [hi]; done)) | (focus (intro i hi; simp at hi ⊢; simp [hi]; done)) | (focus (intro i hi; simp at hi ⊢; omega)))))) HW.out (fun k hk => ?_)
  rcases HF'.out k hk with hk | hk
  · exact .inl hk
  · right; simp at hk; omega

set_option maxRecDepth 100000 in
set_option maxHeartbeats 1000000 in
theorem winDrop_any {base : Nat} {w : World} {p : Nat} {most : Int} {xs : List Pc} {F : List Nat} (h : WinAt base w p most xs F) (hk : winOk most xs) (s : Int) :
    Calls Tryz.prog 93 #[.pointer (some ⟨p, 0, none⟩), .int .u32 s] w (WDid base w p most F (.int .i64 ((xs.length : Int) - (outW (dropQ s) xs).length)) (outW (dropQ s) xs)) := by
  have hlt := h.lt
  have HO : Hid (∀ W, Chg [] w W → W.cell? ⟨w.heap.size, 0, none⟩ = some (.int .u32 s) → w.heap.size < W.heap.size →
      Calls Tryz.prog 91 #[.pointer (some ⟨p, 0, none⟩), .func (.func 128) #[] #[.pointer (some ⟨w.heap.size, 0, none⟩)]] W (WDid base W p most F (.int .i64 ((xs.length : Int) - (outW (dropQ s) xs).length)) (outW (dropQ s) xs))) := fun W hc i0 i4 => by
    have n0 : w.heap.size ∉ F := fun hm => by have := (hlt _ hm).2; omega
    refine winOut_any (dropQ s) (h.chg hc (by simp)) hk 128 (fun args W => run_enter Tryz.func128 (by kernel_rfl) rfl args W) _ (hid fun W' x hc' => ?_)
    obtain ⟨m, rfl⟩ := chg_of hc'
    exact drop1_any s x w.heap.size _ (by rw [cell_chg _ _ _ _ _ (by omega) n0]; exact i0) (by simp; omega)
  clear h hk hlt
  go_enter Tryz.func93, Tryz.ntmps93
  go_wp2_with (go_at_call 91; refine (HO.out _ (by repeat (first | with_reducible exact Chg.refl _ _ | (focus (refine ChS.chg ?_; (repeat (first | with_reducible exact ChS.refl _ _ | with_reducible refine ChS.drewl ?_ | with_reducible refine ChS.drewr ?_ | with_reducible refine ChS.over ?_ _ | with_reducible refine chS_chgs ?_ _ | ((with_reducible refine chS_set ?_ _ ?_ _); rotate_left; (first | assumption | (focus (simp; done)) | (focus (simp; assumption)))) | with_reducible refine ChS.alloc ?_ _ | ((with_reducible refine ChS.lit ?_ ?_ _ _); rotate_left; (first | assumption | (focus (simp; done)) | (focus (simp; assumption)))) | with_reducible refine ChS.alloc ?_ _)); done)) | with_reducible refine Chg.alloc ?_ _ | with_reducible refine Chg.drew ?_ | with_reducible refine Chg.on ?_ _ | ((with_reducible refine Chg.setCell ?_ ?_ _); rotate_left; (first | (focus (left; assumption)) | (focus (left; simp; done)) | (focus (right; simp; done)) | (focus (right; simp; omega)) | (focus (left; simp; omega)))) | ((with_reducible refine Chg.in_ ?_ _ ?_); rotate_left; (first | assumption | (focus (intro i hi; left; simp at hi; subst hi; assumption)) | exact fun i hi => Or.inl hi | (focus (intro i hi; left; simp [hi]; done)) | (focus (intro i hi; left; simp at hi ⊢; simp [hi]; done)) | (focus (intro i hi; simp at hi ⊢; simp [hi]; done)) | (focus (intro i hi; simp at hi ⊢; omega)))))) (by go_simp) (by simp)).mono ?_; rintro _ _ ⟨rfl, m, F', rfl, hw, hF'⟩; have HW := hid hw; have HF' := hid hF'; clear hw hF')
  go_ret
  refine WDid.mk (by repeat (first | with_reducible exact Chg.refl _ _ | (focus (refine ChS.chg ?_; (repeat (first | with_reducible exact ChS.refl _ _ | with_reducible refine ChS.drewl ?_ | with_reducible refine ChS.drewr ?_ | with_reducible refine ChS.over ?_ _ | with_reducible refine chS_chgs ?_ _ | ((with_reducible refine chS_set ?_ _ ?_ _); rotate_left; (first | assumption | (focus (simp; done)) | (focus (simp; assumption)))) | with_reducible refine ChS.alloc ?_ _ | ((with_reducible refine ChS.lit ?_ ?_ _ _); rotate_left; (first | assumption | (focus (simp; done)) | (focus (simp; assumption)))) | with_reducible refine ChS.alloc ?_ _)); done)) | with_reducible refine Chg.alloc ?_ _ | with_reducible refine Chg.drew ?_ | with_reducible refine Chg.on ?_ _ | ((with_reducible refine Chg.setCell ?_ ?_ _); rotate_left; (first | (focus (left; assumption)) | (focus (left; simp; done)) | (focus (right; simp; done)) | (focus (right; simp; omega)) | (focus (left; simp; omega)))) | ((with_reducible refine Chg.in_ ?_ _ ?_); rotate_left; (first | assumption | (focus (intro i hi; left; simp at hi; subst hi; assumption)) | exact fun i hi => Or.inl hi | (focus (intro i hi; left; simp [hi]; done)) | (focus (intro i hi; left; simp at hi ⊢; simp [hi]; done)) | (focus (intro i hi; simp at hi ⊢; simp [hi]; done)) | (focus (intro i hi; simp at hi ⊢; omega)))))) HW.out (fun k hk => ?_)
  rcases HF'.out k hk with hk | hk
  · exact .inl hk
  · right; simp at hk; omega

theorem winNew_yes (n : Int) (h1 : 1 ≤ n) (h2 : n ≤ 1048576) (base : Nat) (w : World) (hb : base ≤ w.heap.size) : Calls Tryz.prog 37 #[.int .i64 n] w fun en w' => en = .returned (.pointer (some ⟨w.heap.size, 0, none⟩)) ∧ w' = w.alloc (.cells #[.int .i64 n, .int .i64 0, .slice none 0 0] 167) := by
  have g1 : decide (n < 1) = false := by simp; omega
  have g2 : decide (1048576 < n) = false := by simp; omega
  go_enter Tryz.func37, Tryz.ntmps37
  go_wp2
  go_ret
  exact ⟨rfl, rfl⟩
theorem WinAt.new {base : Nat} {w : World} {n : Int} (hb : base ≤ w.heap.size) : WinAt base (w.alloc (.cells #[.int .i64 n, .int .i64 0, .slice none 0 0] 167)) w.heap.size n [] [w.heap.size] :=
  ⟨.slice none 0 0, Blk.new w [.int .i64 n, .int .i64 0, .slice none 0 0] _, Own.nil _, hb, by simp [Value.ownBlock], rfl⟩
end
end Go.Proofs.YtnihngljmmbenaaGreatDoor
