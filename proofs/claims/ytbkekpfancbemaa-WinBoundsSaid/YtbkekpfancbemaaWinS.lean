/- Walks: the reference's window: out, Ack, Drop, New; SamePieces; the chapter's example. -/
import Derived.Test.YtbkekpfancbemaaWinR
namespace Go.Proofs.Ytbkekpfancbemaa
set_option linter.unusedVariables false
set_option linter.unusedSimpArgs false
open Go.RowKit

/-- what the reference takes out -/
def rQ (all : Bool) (s : Int) (to : Pl) (p : Pc) : Bool := decide (p.s = s) && (all || !bef to p.t)
theorem rQ_ack (s : Int) (to : Pl) : rQ false s to = ackQ s to := by funext p; simp [rQ, ackQ]
theorem rQ_drop (s : Int) (to : Pl) : rQ true s to = dropQ s := by funext p; simp [rQ, dropQ]

set_option maxRecDepth 100000 in
set_option maxHeartbeats 4000000 in
theorem rOut_any {base : Nat} {w : World} {p : Nat} {most : Int} {xs : List Pc} {F : List Nat} (h : RWinAt base w p most xs F) (hk : winOk most xs) (s : Int) (to : Pl) (all : Bool) (hb : base ≤ w.heap.size) :
    Calls Try.prog 64 #[.pointer (some ⟨p, 0, none⟩), .int .u32 s, to.v, .bool all] w (RDid base w p most F (.int .i64 ((xs.length : Int) - (outW (rQ all s to) xs).length)) (outW (rQ all s to) xs)) := by
  have hlt := h.lt
  obtain ⟨v, h1, h2, h3, h4, rfl⟩ := h
  have hp := h1.lt
  have c1 := h1.cell 1 rfl
  have f1 := h1.free 1
  obtain ⟨a, cap, rfl, hs⟩ := Own.slice Pc.cs_len h2
  have hmax := len_max hs
  have hll := winOk_len hk
  have hol := outW_len (rQ all s to) xs
  have H1 := hid h1
  have q1 : ¬ w.heap.size = p := by omega
  unfold Pl.v
  clear h1 h2 hlt hk
  go_enter Try.func64, Try.ntmps64
  go_wp2
  go_loopw [9, 10] (fun l i wr => ∃ (k : Nat) (ys : List Pc), k ≤ xs.length ∧ i = .int .i64 k ∧ Ov (w.alloc (.cells #[.int .u32 to.c, .int .u32 to.b, .int .u32 to.n] 24)) wr ∧ Own (w.heap.size + 1) 32 8 Pc.cs wr l ys ∧ ys.length ≤ k ∧ Hid (ys = outW (rQ all s to) (xs.take k))) (fun _ i _ => xs.length - (intOf i).toNat)
  case atStart => exact ⟨0, [], Nat.zero_le _, rfl, over_self _, Own.nil _, Nat.le_refl _, hid rfl⟩
  case round =>
    obtain ⟨k, ys, hk, rfl, ⟨e, rfl⟩, hown, hyl, hys⟩ := hrel
    by_cases hlt : k < xs.length
    · obtain ⟨b, off, rfl, hb', d0, d1, d2, d3, d4, d5, d6, d7⟩ := SlP.at_ hs hlt
      have HB := hid (fun W => rbefore_any to xs[k].t W)
      unfold Pl.v at HB
      cases hq : rQ all s to xs[k]
      · have Hq := hid hq
        have hsn := hid (show outW (rQ all s to) (xs.take (k + 1)) = outW (rQ all s to) (xs.take k) ++ [xs[k]] by rw [outW_snoc _ hlt, hq]; rfl)
        have hq' : (xs[k].s != s) = true ∨ ((xs[k].s != s) = false ∧ all = false ∧ bef to xs[k].t = true) := by
          unfold rQ at hq
          by_cases g : xs[k].s = s
          · right; simp [g] at hq; simp [g, hq]
          · left; simp [g]
        clear hq
        rcases hq' with g1 | ⟨g1, rfl, g2⟩
        · go_wp2_with (first | (go_at_call 17; (with_reducible refine (HB.out _).mono ?_); rintro _ _ ⟨⟨e1, rfl⟩, rfl⟩) | (at_builtin; refine wpList_append piece_elem Pc.cs_len Pc.cs_one rfl (.tmp 43) (.tmp 45) rfl (B := w.alloc (.cells #[.int .u32 to.c, .int .u32 to.b, .int .u32 to.n] 24)) (xs := [xs[k]]) hown rfl rfl (by (try unfold Ov); repeat (first | with_reducible exact ex_over | with_reducible exact over_self _ | with_reducible refine ex_into ?_ _ | with_reducible refine ex_alloc ?_ _ | with_reducible refine ex_drew ?_ | ((with_reducible refine ex_setCell ?_ ?_ _); rotate_left; (first | omega | (simp; done) | (simp; omega))) | ((with_reducible refine ex_chg ?_ _ ?_); rotate_left; (first | assumption | (exact Hid.out (by assumption)))) | exact ex_over)) (by (try unfold Ov); repeat (first | with_reducible exact ex_over | with_reducible exact over_self _ | with_reducible refine ex_into ?_ _ | with_reducible refine ex_alloc ?_ _ | with_reducible refine ex_drew ?_ | ((with_reducible refine ex_setCell ?_ ?_ _); rotate_left; (first | omega | (simp; done) | (simp; omega))) | ((with_reducible refine ex_chg ?_ _ ?_); rotate_left; (first | assumption | (exact Hid.out (by assumption)))) | exact ex_over)) (by simp) (by simp; try omega) (by first | exact Sl.one_new (y := xs[k]) (by simp; try omega) | exact Sl.drew (Sl.one_new (y := xs[k]) (by simp; try omega))) (by simp only [List.length_append, List.length_singleton]; unfold maxLen; omega) (by simp only [List.length_append, List.length_singleton]; omega) ?_; intro v' x' hown' _ _))
          go_roundw
          case rel => exact ⟨k + 1, _, by omega, by go_num, (by (try unfold Ov); repeat (first | with_reducible exact ex_over | with_reducible exact over_self _ | with_reducible refine ex_into ?_ _ | with_reducible refine ex_alloc ?_ _ | with_reducible refine ex_drew ?_ | ((with_reducible refine ex_setCell ?_ ?_ _); rotate_left; (first | omega | (simp; done) | (simp; omega))) | ((with_reducible refine ex_chg ?_ _ ?_); rotate_left; (first | assumption | (exact Hid.out (by assumption)))) | exact ex_over)), hown', by simp; omega, hid (by rw [hsn.out, ← hys.out])⟩
          case measure => simp [intOf]; omega
        · rw [g2] at HB
          go_wp2_with (first | (go_at_call 17; (with_reducible refine (HB.out _).mono ?_); rintro _ _ ⟨⟨e1, rfl⟩, rfl⟩) | (at_builtin; refine wpList_append piece_elem Pc.cs_len Pc.cs_one rfl (.tmp 43) (.tmp 45) rfl (B := w.alloc (.cells #[.int .u32 to.c, .int .u32 to.b, .int .u32 to.n] 24)) (xs := [xs[k]]) hown rfl rfl (by (try unfold Ov); repeat (first | with_reducible exact ex_over | with_reducible exact over_self _ | with_reducible refine ex_into ?_ _ | with_reducible refine ex_alloc ?_ _ | with_reducible refine ex_drew ?_ | ((with_reducible refine ex_setCell ?_ ?_ _); rotate_left; (first | omega | (simp; done) | (simp; omega))) | ((with_reducible refine ex_chg ?_ _ ?_); rotate_left; (first | assumption | (exact Hid.out (by assumption)))) | exact ex_over)) (by (try unfold Ov); repeat (first | with_reducible exact ex_over | with_reducible exact over_self _ | with_reducible refine ex_into ?_ _ | with_reducible refine ex_alloc ?_ _ | with_reducible refine ex_drew ?_ | ((with_reducible refine ex_setCell ?_ ?_ _); rotate_left; (first | omega | (simp; done) | (simp; omega))) | ((with_reducible refine ex_chg ?_ _ ?_); rotate_left; (first | assumption | (exact Hid.out (by assumption)))) | exact ex_over)) (by simp) (by simp; try omega) (by first | exact Sl.one_new (y := xs[k]) (by simp; try omega) | exact Sl.drew (Sl.one_new (y := xs[k]) (by simp; try omega))) (by simp only [List.length_append, List.length_singleton]; unfold maxLen; omega) (by simp only [List.length_append, List.length_singleton]; omega) ?_; intro v' x' hown' _ _))
          go_roundw
          case rel => exact ⟨k + 1, _, by omega, by go_num, (by (try unfold Ov); repeat (first | with_reducible exact ex_over | with_reducible exact over_self _ | with_reducible refine ex_into ?_ _ | with_reducible refine ex_alloc ?_ _ | with_reducible refine ex_drew ?_ | ((with_reducible refine ex_setCell ?_ ?_ _); rotate_left; (first | omega | (simp; done) | (simp; omega))) | ((with_reducible refine ex_chg ?_ _ ?_); rotate_left; (first | assumption | (exact Hid.out (by assumption)))) | exact ex_over)), hown', by simp; omega, hid (by rw [hsn.out, ← hys.out])⟩
          case measure => simp [intOf]; omega
      · have Hq := hid hq
        have hsn := hid (show outW (rQ all s to) (xs.take (k + 1)) = outW (rQ all s to) (xs.take k) by rw [outW_snoc _ hlt, hq]; simp)
        have hq' : (xs[k].s != s) = false ∧ (all = true ∨ (all = false ∧ bef to xs[k].t = false)) := by
          unfold rQ at hq
          by_cases g : xs[k].s = s
          · cases all <;> simp [g] at hq ⊢; exact hq
          · simp [g] at hq
        clear hq
        obtain ⟨g1, hq'⟩ := hq'
        rcases hq' with rfl | ⟨rfl, g2⟩
        · go_wp2_with fail
          go_roundw
          case rel => exact ⟨k + 1, ys, by omega, by go_num, (by (try unfold Ov); repeat (first | with_reducible exact ex_over | with_reducible exact over_self _ | with_reducible refine ex_into ?_ _ | with_reducible refine ex_alloc ?_ _ | with_reducible refine ex_drew ?_ | ((with_reducible refine ex_setCell ?_ ?_ _); rotate_left; (first | omega | (simp; done) | (simp; omega))) | ((with_reducible refine ex_chg ?_ _ ?_); rotate_left; (first | assumption | (exact Hid.out (by assumption)))) | exact ex_over)), (by repeat (first | with_reducible exact hown | ((with_reducible refine Own.set_ne ?_ ?_ _); rotate_left; (first | assumption | (focus (simp; done)) | (focus (simp [Value.ownBlock]; done)) | (focus (simp [Value.ownBlock]; omega)))) | ((with_reducible refine Own.in_some ?_ _ ?_); rotate_left; (first | assumption | (focus (simp; done)) | (focus (simp; omega)))) | ((with_reducible refine Own.in_one ?_ _ ?_); rotate_left; (first | assumption | (focus (simp [Value.ownBlock]; done)) | (focus (simp [Value.ownBlock]; omega)))) | ((with_reducible refine Own.chg ?_ (chg_chg _ _ _) ?_); rotate_left; (first | assumption | (focus (simp; done)) | (focus (simp; omega)))) | with_reducible refine Own.over ?_ _ | with_reducible refine Own.alloc ?_ _ | with_reducible refine Own.drew ?_ | exact hown)), by omega, hid (by rw [hsn.out, ← hys.out])⟩
          case measure => simp [intOf]; omega
        · rw [g2] at HB
          go_wp2_with (go_at_call 17; (with_reducible refine (HB.out _).mono ?_); rintro _ _ ⟨⟨e1, rfl⟩, rfl⟩)
          go_roundw
          case rel => exact ⟨k + 1, ys, by omega, by go_num, (by (try unfold Ov); repeat (first | with_reducible exact ex_over | with_reducible exact over_self _ | with_reducible refine ex_into ?_ _ | with_reducible refine ex_alloc ?_ _ | with_reducible refine ex_drew ?_ | ((with_reducible refine ex_setCell ?_ ?_ _); rotate_left; (first | omega | (simp; done) | (simp; omega))) | ((with_reducible refine ex_chg ?_ _ ?_); rotate_left; (first | assumption | (exact Hid.out (by assumption)))) | exact ex_over)), (by repeat (first | with_reducible exact hown | ((with_reducible refine Own.set_ne ?_ ?_ _); rotate_left; (first | assumption | (focus (simp; done)) | (focus (simp [Value.ownBlock]; done)) | (focus (simp [Value.ownBlock]; omega)))) | ((with_reducible refine Own.in_some ?_ _ ?_); rotate_left; (first | assumption | (focus (simp; done)) | (focus (simp; omega)))) | ((with_reducible refine Own.in_one ?_ _ ?_); rotate_left; (first | assumption | (focus (simp [Value.ownBlock]; done)) | (focus (simp [Value.ownBlock]; omega)))) | ((with_reducible refine Own.chg ?_ (chg_chg _ _ _) ?_); rotate_left; (first | assumption | (focus (simp; done)) | (focus (simp; omega)))) | with_reducible refine Own.over ?_ _ | with_reducible refine Own.alloc ?_ _ | with_reducible refine Own.drew ?_ | exact hown)), by omega, hid (by rw [hsn.out, ← hys.out])⟩
          case measure => simp [intOf]; omega
    · obtain rfl : k = xs.length := by omega
      have hys2 := hys.out
      rw [List.take_length] at hys2
      subst hys2
      obtain ⟨al, cl, rfl, _⟩ := Own.slice Pc.cs_len hown
      go_wp2_with fail
      go_ret
      have hB := H1.out
      have hgb : ∀ g, (Value.slice al (outW (rQ all s to) xs).length cl).ownBlock = some g → w.heap.size + 1 ≤ g := fun g hg => (Own.lt hown hg).1
      refine RDid.mk (F' := p :: (Value.slice al (outW (rQ all s to) xs).length cl).ownBlock.toList) (by repeat (first | with_reducible exact Chg.refl _ _ | with_reducible refine Chg.alloc ?_ _ | with_reducible refine Chg.drew ?_ | with_reducible refine Chg.on ?_ _ | ((with_reducible refine Chg.setCell ?_ ?_ _); rotate_left; (first | (focus (left; simp; done)) | (focus (right; simp; done)) | (focus (right; simp; omega)) | (focus (left; simp; omega)))) | ((with_reducible refine Chg.in_ ?_ _ ?_); rotate_left; (first | assumption | exact fun i hi => Or.inl hi | (focus (intro i hi; left; simp [hi]; done)) | (focus (intro i hi; left; simp at hi ⊢; simp [hi]; done)) | (focus (intro i hi; simp at hi ⊢; simp [hi]; done)) | (focus (intro i hi; simp at hi ⊢; omega)))))) ⟨_, Blk.to (cs' := [.int .i64 most, .slice a xs.length cap].set 1 (.slice al (outW (rQ all s to) xs).length cl)) (by repeat (first | with_reducible assumption | with_reducible refine Blk.alloc ?_ _ | with_reducible refine Blk.drew ?_ | with_reducible refine Blk.on ?_ _ | ((with_reducible refine Blk.chg ?_ (chg_chg _ _ _) ?_); rotate_left; (first | assumption | (focus (simp; done)) | (focus (simp; omega)))) | ((with_reducible refine Blk.set ?_ _ _)) | ((with_reducible refine Blk.set_ne ?_ ?_ _); rotate_left; (first | assumption | (focus (simp; done)) | (focus (simp; omega)))))) rfl, (Own.mono (Own.over_swap hown (by simp) (by simp)) (by omega)), h3, fun h => by have := hgb _ h; omega, rfl⟩ (fun k hk => ?_)
      rcases List.mem_cons.1 hk with rfl | hk
      · exact .inl (by simp)
      · have := hgb k (by simpa using hk)
        exact .inr (by omega)

set_option maxHeartbeats 1000000 in
theorem rAck_any {base : Nat} {w : World} {p : Nat} {most : Int} {xs : List Pc} {F : List Nat} (h : RWinAt base w p most xs F) (hk : winOk most xs) (s : Int) (to : Pl) (hb : base ≤ w.heap.size) :
    Calls Try.prog 51 #[.pointer (some ⟨p, 0, none⟩), .int .u32 s, to.v] w (RDid base w p most F (.int .i64 ((xs.length : Int) - (outW (ackQ s to) xs).length)) (outW (ackQ s to) xs)) := by
  have HO := hid (fun W (hW : Chg [] w W) => rOut_any (h.chg hW (by simp)) hk s to false (Nat.le_trans hb hW.size))
  rw [rQ_ack] at HO
  unfold Pl.v at *
  clear h hk
  go_enter Try.func51, Try.ntmps51
  go_wp2_with (go_at_call 64; refine (HO.out _ (by repeat (first | with_reducible exact Chg.refl _ _ | with_reducible refine Chg.alloc ?_ _ | with_reducible refine Chg.drew ?_ | with_reducible refine Chg.on ?_ _ | ((with_reducible refine Chg.setCell ?_ ?_ _); rotate_left; (first | (focus (left; simp; done)) | (focus (right; simp; done)) | (focus (right; simp; omega)) | (focus (left; simp; omega)))) | ((with_reducible refine Chg.in_ ?_ _ ?_); rotate_left; (first | assumption | exact fun i hi => Or.inl hi | (focus (intro i hi; left; simp [hi]; done)) | (focus (intro i hi; left; simp at hi ⊢; simp [hi]; done)) | (focus (intro i hi; simp at hi ⊢; simp [hi]; done)) | (focus (intro i hi; simp at hi ⊢; omega))))))).mono ?_; rintro _ _ ⟨rfl, m, F', rfl, hw, hF'⟩; have HW := hid hw; have HF' := hid hF'; clear hw hF')
  go_ret
  refine RDid.mk (by repeat (first | with_reducible exact Chg.refl _ _ | with_reducible refine Chg.alloc ?_ _ | with_reducible refine Chg.drew ?_ | with_reducible refine Chg.on ?_ _ | ((with_reducible refine Chg.setCell ?_ ?_ _); rotate_left; (first | (focus (left; simp; done)) | (focus (right; simp; done)) | (focus (right; simp; omega)) | (focus (left; simp; omega)))) | ((with_reducible refine Chg.in_ ?_ _ ?_); rotate_left; (first | assumption | exact fun i hi => Or.inl hi | (focus (intro i hi; left; simp [hi]; done)) | (focus (intro i hi; left; simp at hi ⊢; simp [hi]; done)) | (focus (intro i hi; simp at hi ⊢; simp [hi]; done)) | (focus (intro i hi; simp at hi ⊢; omega)))))) HW.out (fun k hk => ?_)
  rcases HF'.out k hk with hk | hk
  · exact .inl hk
  · right; first | omega | (simp at hk; omega)

set_option maxHeartbeats 1000000 in
theorem rDrop_any {base : Nat} {w : World} {p : Nat} {most : Int} {xs : List Pc} {F : List Nat} (h : RWinAt base w p most xs F) (hk : winOk most xs) (s : Int) (hb : base ≤ w.heap.size) :
    Calls Try.prog 52 #[.pointer (some ⟨p, 0, none⟩), .int .u32 s] w (RDid base w p most F (.int .i64 ((xs.length : Int) - (outW (dropQ s) xs).length)) (outW (dropQ s) xs)) := by
  have HO := hid (fun W (hW : Chg [] w W) => rOut_any (h.chg hW (by simp)) hk s ⟨0, 0, 0⟩ true (Nat.le_trans hb hW.size))
  rw [rQ_drop] at HO
  clear h hk
  go_enter Try.func52, Try.ntmps52
  go_wp2_with (go_at_call 64; refine (HO.out _ (by repeat (first | with_reducible exact Chg.refl _ _ | with_reducible refine Chg.alloc ?_ _ | with_reducible refine Chg.drew ?_ | with_reducible refine Chg.on ?_ _ | ((with_reducible refine Chg.setCell ?_ ?_ _); rotate_left; (first | (focus (left; simp; done)) | (focus (right; simp; done)) | (focus (right; simp; omega)) | (focus (left; simp; omega)))) | ((with_reducible refine Chg.in_ ?_ _ ?_); rotate_left; (first | assumption | exact fun i hi => Or.inl hi | (focus (intro i hi; left; simp [hi]; done)) | (focus (intro i hi; left; simp at hi ⊢; simp [hi]; done)) | (focus (intro i hi; simp at hi ⊢; simp [hi]; done)) | (focus (intro i hi; simp at hi ⊢; omega))))))).mono ?_; rintro _ _ ⟨rfl, m, F', rfl, hw, hF'⟩; have HW := hid hw; have HF' := hid hF'; clear hw hF')
  go_ret
  refine RDid.mk (by repeat (first | with_reducible exact Chg.refl _ _ | with_reducible refine Chg.alloc ?_ _ | with_reducible refine Chg.drew ?_ | with_reducible refine Chg.on ?_ _ | ((with_reducible refine Chg.setCell ?_ ?_ _); rotate_left; (first | (focus (left; simp; done)) | (focus (right; simp; done)) | (focus (right; simp; omega)) | (focus (left; simp; omega)))) | ((with_reducible refine Chg.in_ ?_ _ ?_); rotate_left; (first | assumption | exact fun i hi => Or.inl hi | (focus (intro i hi; left; simp [hi]; done)) | (focus (intro i hi; left; simp at hi ⊢; simp [hi]; done)) | (focus (intro i hi; simp at hi ⊢; simp [hi]; done)) | (focus (intro i hi; simp at hi ⊢; omega)))))) HW.out (fun k hk => ?_)
  rcases HF'.out k hk with hk | hk
  · exact .inl hk
  · right; first | omega | (simp at hk; omega)

theorem rNew_yes (n : Int) (h1 : 1 ≤ n) (h2 : n ≤ 1048576) (w : World) : Calls Try.prog 23 #[.int .i64 n] w fun en w' => en = .returned (.pointer (some ⟨w.heap.size, 0, none⟩)) ∧ w' = w.alloc (.cells #[.int .i64 n, .slice none 0 0] 46) := by
  have g1 : decide (n < 1) = false := by simp; omega
  have g2 : decide (1048576 < n) = false := by simp; omega
  go_enter Try.func23, Try.ntmps23
  go_wp2
  go_ret
  exact ⟨rfl, rfl⟩
theorem RWinAt.new {base : Nat} {w : World} {n : Int} (hb : base ≤ w.heap.size) : RWinAt base (w.alloc (.cells #[.int .i64 n, .slice none 0 0] 46)) w.heap.size n [] [w.heap.size] :=
  ⟨.slice none 0 0, Blk.new w [.int .i64 n, .slice none 0 0] _, Own.nil _, hb, by simp [Value.ownBlock], rfl⟩
theorem rNew_no (n : Int) (h : n < 1 ∨ 1048576 < n) (w : World) : Calls Try.prog 23 #[.int .i64 n] w fun en w' => en = .returned (.pointer none) ∧ w = w' := by
  by_cases g1 : n < 1
  · go_enter Try.func23, Try.ntmps23
    go_wp2
    go_ret
    exact ⟨rfl, rfl⟩
  · have g2 : 1048576 < n := by omega
    go_enter Try.func23, Try.ntmps23
    go_wp2
    go_ret
    exact ⟨rfl, rfl⟩

theorem neq_piece (W : World) (x y : Pc) : (binOp .neq 32 x.v y.v).run Try.prog W = .ok (.bool (decide (x ≠ y))) W := by
  obtain ⟨s, ⟨a, b, c⟩, ⟨d, e, f⟩, n⟩ := x
  obtain ⟨s', ⟨a', b', c'⟩, ⟨d', e', f'⟩, n'⟩ := y
  simp [go_sem]
  (repeat' split) <;> simp_all

theorem sameP_end {xs ys : List Pc} {k : Nat} (hl : xs.length = ys.length) (h : xs.take k = ys.take k) (hk : ¬ k < xs.length) : decide (xs = ys) = true := by
  rw [List.take_of_length_le (by omega), List.take_of_length_le (by omega)] at h
  simp [h]
theorem sameP_step {xs ys : List Pc} {k : Nat} (h : xs.take k = ys.take k) (h1 : k < xs.length) (h2 : k < ys.length) (he : xs[k] = ys[k]) : xs.take (k + 1) = ys.take (k + 1) := by
  rw [List.take_succ_eq_append_getElem h1, List.take_succ_eq_append_getElem h2, h, he]
theorem sameP_no {xs ys : List Pc} {k : Nat} (h1 : k < xs.length) (h2 : k < ys.length) (he : ¬ xs[k] = ys[k]) : decide (xs = ys) = false := by
  rw [decide_eq_false_iff_not]; intro h; subst h; exact he rfl
theorem sameP_len {xs ys : List Pc} (h : (((xs.length : Nat) : Int) != ((ys.length : Nat) : Int)) = true) : decide (xs = ys) = false := by
  rw [decide_eq_false_iff_not]; intro hh; subst hh; simp at h

set_option maxHeartbeats 1000000 in
theorem sameP_any (xs ys : List Pc) (a b : Option Addr) (cap cap' : Nat) (w : World) (hs : SlP w a cap xs) (hs' : SlP w b cap' ys) :
    Calls Try.prog 29 #[.slice a xs.length cap, .slice b ys.length cap'] w (Ret w (.bool (decide (xs = ys)))) := by
  have hmax := len_max hs
  have hmax' := len_max hs'
  cases hl : (((xs.length : Nat) : Int) != ((ys.length : Nat) : Int))
  · have hll : xs.length = ys.length := by simp at hl; omega
    have Hl := hid hll
    clear hll
    go_enter Try.func29, Try.ntmps29
    go_wp2
    go_loopw [5] (fun i wr => ∃ (k : Nat), k ≤ xs.length ∧ i = .int .i64 k ∧ Ov w wr ∧ Hid (xs.take k = ys.take k)) (fun i _ => xs.length - (intOf i).toNat)
    case atStart => exact ⟨0, Nat.zero_le _, rfl, over_self w, hid rfl⟩
    case round =>
      obtain ⟨k, hk, rfl, ⟨e, rfl⟩, hto⟩ := hrel
      by_cases hlt : k < xs.length
      · obtain ⟨b, off, rfl, hb, c0, c1, c2, c3, c4, c5, c6, c7⟩ := SlP.at_ hs hlt
        have hlt' : k < ys.length := by have := Hl.out; omega
        obtain ⟨b', off', rfl, hb', d0, d1, d2, d3, d4, d5, d6, d7⟩ := SlP.at_ hs' hlt'
        have q := fun W => neq_piece W xs[k] ys[k]
        unfold Pc.v at q
        by_cases he : xs[k] = ys[k]
        · rw [show decide (xs[k] ≠ ys[k]) = false by simp [he]] at q
          have He := hid he
          clear he
          go_wp2
          refine wp_region_over (by kernel_rfl) (by kernel_rfl) ?_
          repeat (go_big_quiet_step (fail))
          refine wpQuiet_nil ?_
          intro _ hw'
          obtain ⟨nq, rfl⟩ := hw'
          go_wp2
          go_roundw
          case rel => exact ⟨k + 1, by omega, by go_num, (by (try unfold Ov); repeat (first | with_reducible exact ex_over | with_reducible exact over_self _ | with_reducible refine ex_into ?_ _ | with_reducible refine ex_alloc ?_ _ | with_reducible refine ex_drew ?_ | ((with_reducible refine ex_setCell ?_ ?_ _); rotate_left; (first | omega | (simp; done) | (simp; omega))) | ((with_reducible refine ex_chg ?_ _ ?_); rotate_left; (first | assumption | (exact Hid.out (by assumption)))) | exact ex_over)), hid (sameP_step hto.out hlt hlt' He.out)⟩
          case measure => simp [intOf]; omega
        · rw [show decide (xs[k] ≠ ys[k]) = true by simp [he]] at q
          have He := hid he
          clear he
          go_wp2
          refine wp_region_over (by kernel_rfl) (by kernel_rfl) ?_
          repeat (go_big_quiet_step (fail))
          refine wpQuiet_nil ?_
          intro _ hw'
          obtain ⟨nq, rfl⟩ := hw'
          go_wp2
          go_ret
          exact ⟨(by (try unfold Ov); repeat (first | with_reducible exact ex_over | with_reducible exact over_self _ | with_reducible refine ex_into ?_ _ | with_reducible refine ex_alloc ?_ _ | with_reducible refine ex_drew ?_ | ((with_reducible refine ex_setCell ?_ ?_ _); rotate_left; (first | omega | (simp; done) | (simp; omega))) | ((with_reducible refine ex_chg ?_ _ ?_); rotate_left; (first | assumption | (exact Hid.out (by assumption)))) | exact ex_over)), ret_bool (sameP_no hlt hlt' He.out).symm⟩
      · go_wp2
        go_ret
        exact ⟨(by (try unfold Ov); repeat (first | with_reducible exact ex_over | with_reducible exact over_self _ | with_reducible refine ex_into ?_ _ | with_reducible refine ex_alloc ?_ _ | with_reducible refine ex_drew ?_ | ((with_reducible refine ex_setCell ?_ ?_ _); rotate_left; (first | omega | (simp; done) | (simp; omega))) | ((with_reducible refine ex_chg ?_ _ ?_); rotate_left; (first | assumption | (exact Hid.out (by assumption)))) | exact ex_over)), ret_bool (sameP_end Hl.out hto.out hlt).symm⟩
  · have Hl := hid hl
    go_enter Try.func29, Try.ntmps29
    go_wp2
    go_ret
    exact ⟨(by (try unfold Ov); repeat (first | with_reducible exact ex_over | with_reducible exact over_self _ | with_reducible refine ex_into ?_ _ | with_reducible refine ex_alloc ?_ _ | with_reducible refine ex_drew ?_ | ((with_reducible refine ex_setCell ?_ ?_ _); rotate_left; (first | omega | (simp; done) | (simp; omega))) | ((with_reducible refine ex_chg ?_ _ ?_); rotate_left; (first | assumption | (exact Hid.out (by assumption)))) | exact ex_over)), ret_bool (sameP_len Hl.out).symm⟩
end Go.Proofs.Ytbkekpfancbemaa
