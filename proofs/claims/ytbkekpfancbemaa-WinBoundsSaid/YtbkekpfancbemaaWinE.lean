/- Walks: IndexFunc and DeleteFunc at the closure of (*Win).out. -/
import Derived.Test.YtbkekpfancbemaaWinD
namespace Go.Proofs.Ytbkekpfancbemaa
set_option linter.unusedVariables false
set_option linter.unusedSimpArgs false
open Go.RowKit

theorem IdxRes.hit {q : Pc → Bool} {xs : List Pc} {p : Nat} {most n : Int} {v : Value} {w w' : World} {i : Nat} (h : i < xs.length) (hc : Chg [p] w w') (h1 : noneTo q xs i) (h2 : q xs[i] = true) (hB : Blk w' p [.int .i64 most, .int .i64 (n - xs[i].n), v] 78) :
    IdxRes q xs p most n v w (.returned (.int .i64 i)) w' := by
  obtain ⟨m, hm⟩ := chg_of hc
  exact ⟨m, hm, .inl ⟨i, h, rfl, h1, h2, hB⟩⟩
theorem IdxRes.miss {q : Pc → Bool} {xs : List Pc} {p : Nat} {most n : Int} {v : Value} {w w' : World} (hc : Chg [p] w w') (h1 : noneTo q xs xs.length) (hB : Blk w' p [.int .i64 most, .int .i64 n, v] 78) :
    IdxRes q xs p most n v w (.returned (.int .i64 (-1))) w' := by
  obtain ⟨m, hm⟩ := chg_of hc
  exact ⟨m, hm, .inr ⟨rfl, h1, hB⟩⟩

set_option maxRecDepth 100000 in
set_option maxHeartbeats 2000000 in
theorem indexP_any (q : Pc → Bool) (xs : List Pc) (hxs : okPs xs) (a : Option Addr) (cap : Nat) (fi : Nat) (hE : ∀ args W, (callFunc fi args).run Try.prog W = .ok (.enter fi args) W) (caps : Array Value) (p isb wb : Nat) (most n : Int) (v : Value) (w : World)
    (HQ : Hid (∀ W' x, Chg [p] w W' → Calls Try.prog fi (#[x.v] ++ caps) W' (Ret W' (.bool (q x)))))
    (cI : w.cell? ⟨isb, 0, none⟩ = some (.func (.func fi) #[] caps)) (cW : w.cell? ⟨wb, 0, none⟩ = some (.pointer (some ⟨p, 0, none⟩))) (hI : isb < w.heap.size) (hW : wb < w.heap.size) (nI : isb ∉ [p]) (nW : wb ∉ [p])
    (hs : SlP w a cap xs) (hsp : ∀ ad, a = some ad → ad.block ∉ [p]) (hB : Blk w p [.int .i64 most, .int .i64 n, v] 78) (hn : sumN xs ≤ n) (h4 : n ≤ 3000000) :
    Calls Try.prog 72 #[.slice a xs.length cap, .func (.func 62) #[] #[.pointer (some ⟨isb, 0, none⟩), .pointer (some ⟨wb, 0, none⟩)]] w (IdxRes q xs p most n v w) := by
  have hmax := len_max hs
  have HB := hid hB
  have HX := hid hxs
  clear hB
  go_enter Try.func72, Try.ntmps72
  go_wp2
  go_loopw [8] (fun i wr => ∃ (k : Nat) (m : Mut), k ≤ xs.length ∧ i = .int .i64 k ∧ wr = chg [p] w m ∧ Hid (noneTo q xs k) ∧ Hid (Blk wr p [.int .i64 most, .int .i64 n, v] 78)) (fun i _ => xs.length - (intOf i).toNat)
  case atStart =>
    obtain ⟨m, hm⟩ := chg_of (Chg.refl [p] w)
    exact ⟨0, m, Nat.zero_le _, rfl, hm, hid (noneTo_zero _ _), HB⟩
  case round =>
    obtain ⟨k, m, hk, rfl, rfl, hno, hBk⟩ := hrel
    by_cases hlt : k < xs.length
    · obtain ⟨b, off, rfl, hb, c0, c1, c2, c3, c4, c5, c6, c7⟩ := hs.at_ hlt
      have nb := hsp _ rfl
      have hok := HX.out xs[k] (List.getElem_mem hlt)
      have hsum : xs[k].n ≤ n := by
        have h1 := sumN_append (xs.take k) (xs.drop k)
        rw [List.take_append_drop, List.drop_eq_getElem_cons hlt] at h1
        simp only [sumN] at h1
        have h2 := (sumN_nonneg (l := xs.take k) (fun p hp => HX.out p (List.mem_of_mem_take hp))).1
        have h3 := (sumN_nonneg (l := xs.drop (k + 1)) (fun p hp => HX.out p (List.mem_of_mem_drop hp))).1
        omega
      have HO := hid (fun W (hW1 : Ov (chg [p] w m) W) => out1_any fi hE caps (q xs[k]) xs[k] p isb wb most n v W (hid (fun W' hW' => HQ.out W' _ (Chg.then (chg_chg [p] w m) (Chg.of_ov (over_trans hW1 hW') []) (by simp))))
        (by obtain ⟨e, rfl⟩ := hW1; rw [cell_over _ _ _ _ (by simp; omega), cell_chg _ _ _ _ _ hI nI]; exact cI) (by obtain ⟨e, rfl⟩ := hW1; rw [cell_over _ _ _ _ (by simp; omega), cell_chg _ _ _ _ _ hW nW]; exact cW)
        (by obtain ⟨e, rfl⟩ := hW1; simp; omega) (by obtain ⟨e, rfl⟩ := hW1; simp; omega) (hBk.out.chg (Chg.of_ov hW1 []) (by simp)) hok.1 hok.2 (fun _ => hsum) h4)
      unfold Pc.v at HO
      cases hq : q xs[k]
      · have Hq := hid hq
        rw [hq] at HO
        clear hq
        go_wp2_with (go_at_call 62; refine (HO.out _ (by (try unfold Ov); repeat (first | with_reducible exact ex_over | with_reducible exact over_self _ | with_reducible refine ex_into ?_ _ | with_reducible refine ex_alloc ?_ _ | with_reducible refine ex_drew ?_ | ((with_reducible refine ex_setCell ?_ ?_ _); rotate_left; (first | omega | (simp; done) | (simp; omega))) | ((with_reducible refine ex_chg ?_ _ ?_); rotate_left; (first | assumption | (exact Hid.out (by assumption)))) | exact ex_over))).mono ?_; rintro _ _ ⟨rfl, m2, rfl, hB2⟩; have HB2 := hid hB2; clear hB2)
        go_roundw
        case rel =>
          obtain ⟨m3, hm3⟩ := chg_of (Chg.then (chg_chg [p] w m) (chg_chg [p] _ m2) (by simp))
          refine ⟨k + 1, m3, by omega, by go_num, hm3, hid (noneTo_succ hno.out hlt Hq.out), hid HB2.out⟩
        case measure => simp [intOf]; omega
      · have Hq := hid hq
        rw [hq] at HO
        clear hq
        go_wp2_with (go_at_call 62; refine (HO.out _ (by (try unfold Ov); repeat (first | with_reducible exact ex_over | with_reducible exact over_self _ | with_reducible refine ex_into ?_ _ | with_reducible refine ex_alloc ?_ _ | with_reducible refine ex_drew ?_ | ((with_reducible refine ex_setCell ?_ ?_ _); rotate_left; (first | omega | (simp; done) | (simp; omega))) | ((with_reducible refine ex_chg ?_ _ ?_); rotate_left; (first | assumption | (exact Hid.out (by assumption)))) | exact ex_over))).mono ?_; rintro _ _ ⟨rfl, m2, rfl, hB2⟩; have HB2 := hid hB2; clear hB2)
        go_ret
        exact IdxRes.hit hlt (by repeat (first | with_reducible exact Chg.refl _ _ | with_reducible refine Chg.alloc ?_ _ | with_reducible refine Chg.drew ?_ | with_reducible refine Chg.on ?_ _ | ((with_reducible refine Chg.setCell ?_ ?_ _); rotate_left; (first | (focus (left; simp; done)) | (focus (right; simp; done)) | (focus (right; simp; omega)) | (focus (left; simp; omega)))) | ((with_reducible refine Chg.in_ ?_ _ ?_); rotate_left; (first | assumption | exact fun i hi => Or.inl hi | (focus (intro i hi; left; simp [hi]; done)) | (focus (intro i hi; left; simp at hi ⊢; simp [hi]; done)) | (focus (intro i hi; simp at hi ⊢; simp [hi]; done)) | (focus (intro i hi; simp at hi ⊢; omega)))))) hno.out Hq.out HB2.out
    · obtain rfl : k = xs.length := by omega
      go_wp2_with fail
      go_ret
      exact IdxRes.miss (by repeat (first | with_reducible exact Chg.refl _ _ | with_reducible refine Chg.alloc ?_ _ | with_reducible refine Chg.drew ?_ | with_reducible refine Chg.on ?_ _ | ((with_reducible refine Chg.setCell ?_ ?_ _); rotate_left; (first | (focus (left; simp; done)) | (focus (right; simp; done)) | (focus (right; simp; omega)) | (focus (left; simp; omega)))) | ((with_reducible refine Chg.in_ ?_ _ ?_); rotate_left; (first | assumption | exact fun i hi => Or.inl hi | (focus (intro i hi; left; simp [hi]; done)) | (focus (intro i hi; left; simp at hi ⊢; simp [hi]; done)) | (focus (intro i hi; simp at hi ⊢; simp [hi]; done)) | (focus (intro i hi; simp at hi ⊢; omega)))))) hno.out hBk.out
end Go.Proofs.Ytbkekpfancbemaa
