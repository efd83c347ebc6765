/- Walks: draymanlaw06.rising, the document's Same of samples; ChunkLays, ChunkApart. -/
import Derived.Test.YthljlajdkdgieaaDoorGM
import Derived.Test.YthljlajdkdgieaaDoorRcO
namespace Go.Proofs.YthljlajdkdgieaaDoor
set_option linter.unusedVariables false
set_option linter.unusedSimpArgs false
open Go.RowKit
attribute [local go_sem] over_drew chg_drew

theorem sample_elem : ElemOf Tryd.prog 39 47 2 16 := elemOf (z := .agg #[.int .i64 0, .int .u64 0]) (by kernel_rfl) (by kernel_rfl) rfl (by decide)
abbrev OwnM (base : Nat) (w : World) (v : Value) (l : List Sm) : Prop := Own base 47 2 Sm.cs w v l

/-- One that comes behind is kept. -/
def rstep (acc : List Sm) (x : Sm) : List Sm := if comes (knowC En.zero acc) x.t then acc ++ [x] else acc
def riseC (xs : List Sm) : List Sm := xs.foldl rstep []
theorem rise_take {xs : List Sm} {k : Nat} (h : k < xs.length) : riseC (xs.take (k + 1)) = rstep (riseC (xs.take k)) xs[k] := by
  rw [takeC_get h]; unfold riseC; rw [List.foldl_append]; rfl
theorem rise_ok (xs : List Sm) (h : ∀ s ∈ xs, s.wf) : (∀ s ∈ riseC xs, s.wf) ∧ goodC En.zero (riseC xs) ∧ (riseC xs).length ≤ xs.length := by
  have key : ∀ (l acc : List Sm), (∀ s ∈ l, s.wf) → (∀ s ∈ acc, s.wf) → goodC En.zero acc → (∀ s ∈ l.foldl rstep acc, s.wf) ∧ goodC En.zero (l.foldl rstep acc) ∧ (l.foldl rstep acc).length ≤ acc.length + l.length := by
    intro l
    induction l with
    | nil => intro acc _ h2 h3; exact ⟨h2, h3, by simp⟩
    | cons x r ih =>
      intro acc h1 h2 h3
      simp only [List.foldl_cons]
      have hx := h1 x (by simp)
      have hr : ∀ s ∈ r, s.wf := fun s hs => h1 s (by simp [hs])
      unfold rstep
      split
      · rename_i hc
        have h4 := ih (acc ++ [x]) hr (by intro s hs; rcases List.mem_append.1 hs with h' | h'; exact h2 s h'; simp at h'; subst h'; exact hx) ((goodC_snoc _ _ _).2 ⟨h3, hc⟩)
        unfold rstep at h4
        exact ⟨h4.1, h4.2.1, by have := h4.2.2; simp at this ⊢; omega⟩
      · have h4 := ih acc hr h2 h3
        unfold rstep at h4
        exact ⟨h4.1, h4.2.1, by have := h4.2.2; simp at this ⊢; omega⟩
  have := key xs [] h (by simp) trivial
  simpa [riseC] using this
theorem comes_get {acc : List Sm} (hw : ∀ s ∈ acc, s.wf) (hl : acc.length ≤ 1000000) (hne : acc.length - 1 < acc.length) (t : Int) : comes (knowC En.zero acc) t ↔ acc[acc.length - 1].t < t := by
  have hn := (knowZ hw hl).2.2
  unfold comes
  rw [hn]
  rcases List.eq_nil_or_concat acc with rfl | ⟨r, s, hrs⟩
  · simp at hne
  · rw [List.concat_eq_append] at hrs
    subst hrs
    rw [knowC_last]
    simp
    omega

set_option maxRecDepth 100000 in
set_option maxHeartbeats 4000000 in
theorem rising_any (xs : List Sm) (hx : ∀ s ∈ xs, s.wf) (hl : xs.length ≤ 4000) (a : Option Addr) (cap : Nat) (w : World) (hs : SlM w a cap xs) :
    Calls Tryd.prog 25 #[.slice a xs.length cap] w (Gives w fun v w' => OwnM w.heap.size w' v (riseC xs)) := by
  go_enter Tryd.func25, Tryd.ntmps25
  go_wp2_with fail
  go_loopw [3, 4] (fun o i wr => ∃ (k : Nat), k ≤ xs.length ∧ i = .int .i64 (k : Nat) ∧ Ov w wr ∧ OwnM w.heap.size wr o (riseC (xs.take k))) (fun _ i _ => xs.length - (intOf i).toNat)
  case atStart => exact ⟨0, Nat.zero_le _, rfl, (by (try unfold Ov); repeat (first | with_reducible exact ex_over | with_reducible exact over_self _ | with_reducible refine ex_undrew ?_ | with_reducible refine ex_into ?_ _ | with_reducible refine ex_alloc ?_ _ | with_reducible refine ex_drew ?_ | ((with_reducible refine ex_setCell ?_ ?_ _); rotate_left; (first | omega | (focus (simp; done)) | (focus (simp; omega)))) | ((with_reducible refine ex_chg ?_ _ ?_); rotate_left; (first | assumption | (exact Hid.out (by assumption)))) | exact ex_over)), Own.nil _⟩
  case round =>
    obtain ⟨k, hk, rfl, ⟨e0, rfl⟩, hown⟩ := hrel
    have hxk : ∀ s ∈ xs.take k, s.wf := fun s hs => hx s (List.mem_of_mem_take hs)
    obtain ⟨hr1, hr2, hr3⟩ := rise_ok (xs.take k) hxk
    rw [List.length_take, Nat.min_eq_left hk] at hr3
    by_cases hlt : k < xs.length
    · obtain ⟨b6, o6, rfl, hb6, k0, k1⟩ := SlM.at_ hs hlt
      have hv := hx xs[k] (List.getElem_mem hlt)
      have hst := rise_take hlt
      generalize riseC (xs.take k) = acc at *
      obtain ⟨ao, co, rfl, sA⟩ := Own.slice Sm.cs_len hown
      have HO := hid hown
      clear hown
      by_cases hz : acc.length = 0
      · have hz' : ((acc.length : Int) == 0) = true := by rw [hz]; rfl
        have hn : acc = [] := List.eq_nil_of_length_eq_zero hz
        have HS := hid (show riseC (xs.take (k + 1)) = acc ++ [xs[k]] by rw [hst]; unfold rstep; rw [if_pos (by rw [hn]; exact .inl rfl)])
        clear hst hn hr1 hr2
        generalize xs[k] = x at *
        go_wp2_with fail
        refine wp_region_over (by kernel_rfl) (by kernel_rfl) ?_
        repeat (go_big_quiet_step ((fail)))
        refine wpQuiet_nil ?_
        intro _ hw'
        obtain ⟨nq, rfl⟩ := hw'
        go_wp2_with (at_builtin; refine wpList_append sample_elem Sm.cs_len Sm.cs_one rfl (.tmp 29) (.tmp 34) rfl (B := w) (xs := [x]) HO.out rfl rfl (by (try unfold Ov); repeat (first | with_reducible exact ex_over | with_reducible exact over_self _ | with_reducible refine ex_undrew ?_ | with_reducible refine ex_into ?_ _ | with_reducible refine ex_alloc ?_ _ | with_reducible refine ex_drew ?_ | ((with_reducible refine ex_setCell ?_ ?_ _); rotate_left; (first | omega | (focus (simp; done)) | (focus (simp; omega)))) | ((with_reducible refine ex_chg ?_ _ ?_); rotate_left; (first | assumption | (exact Hid.out (by assumption)))) | exact ex_over)) (by (try unfold Ov); repeat (first | with_reducible exact ex_over | with_reducible exact over_self _ | with_reducible refine ex_undrew ?_ | with_reducible refine ex_into ?_ _ | with_reducible refine ex_alloc ?_ _ | with_reducible refine ex_drew ?_ | ((with_reducible refine ex_setCell ?_ ?_ _); rotate_left; (first | omega | (focus (simp; done)) | (focus (simp; omega)))) | ((with_reducible refine ex_chg ?_ _ ?_); rotate_left; (first | assumption | (exact Hid.out (by assumption)))) | exact ex_over)) (by first | assumption | (simp; done) | (simp; omega) | omega) (by first | assumption | (simp; done) | (simp; omega) | omega) (by (repeat with_reducible refine Sl.drew ?_); exact Sl.one_new (y := x) (by simp; try omega)) (by simp only [List.length_append, List.length_singleton, List.length_nil]; unfold maxLen; omega) (by simp only [List.length_append, List.length_singleton, List.length_nil]; omega) ?_; intro v' x' hown' _ _)
        go_roundw
        case rel => exact ⟨k + 1, by omega, by go_num, (by (try unfold Ov); repeat (first | with_reducible exact ex_over | with_reducible exact over_self _ | with_reducible refine ex_undrew ?_ | with_reducible refine ex_into ?_ _ | with_reducible refine ex_alloc ?_ _ | with_reducible refine ex_drew ?_ | ((with_reducible refine ex_setCell ?_ ?_ _); rotate_left; (first | omega | (focus (simp; done)) | (focus (simp; omega)))) | ((with_reducible refine ex_chg ?_ _ ?_); rotate_left; (first | assumption | (exact Hid.out (by assumption)))) | exact ex_over)), by rw [HS.out]; exact hown'⟩
        case measure => (simp [intOf]; try omega)
      · have hz' : ((acc.length : Int) == 0) = false := by rw [beq_eq_false_iff_ne]; omega
        have hne : acc.length - 1 < acc.length := by omega
        obtain ⟨b7, o7, rfl, hb7, j0, j1⟩ := SlM.at_ sA hne
        have hb7' : b7 < w.heap.size + e0.heap.size := by simpa using hb7
        have hci := comes_get hr1 (by omega) hne xs[k].t
        have hidx : ((acc.length : Int) - 1) = ((acc.length - 1 : Nat) : Int) := by omega
        by_cases hc : comes (knowC En.zero acc) xs[k].t
        · have HS := hid (show riseC (xs.take (k + 1)) = acc ++ [xs[k]] by rw [hst]; unfold rstep; rw [if_pos hc])
          have hlt2 := hci.1 hc
          clear hst hr1 hr2 hci hc
          generalize acc[acc.length - 1] = y at *
          generalize xs[k] = x at *
          go_wp2_with fail
          refine wp_region_over (by kernel_rfl) (by kernel_rfl) ?_
          repeat (go_big_quiet_step ((fail)))
          refine wpQuiet_nil ?_
          intro _ hw'
          obtain ⟨nq, rfl⟩ := hw'
          go_wp2_with (at_builtin; refine wpList_append sample_elem Sm.cs_len Sm.cs_one rfl (.tmp 29) (.tmp 34) rfl (B := w) (xs := [x]) HO.out rfl rfl (by (try unfold Ov); repeat (first | with_reducible exact ex_over | with_reducible exact over_self _ | with_reducible refine ex_undrew ?_ | with_reducible refine ex_into ?_ _ | with_reducible refine ex_alloc ?_ _ | with_reducible refine ex_drew ?_ | ((with_reducible refine ex_setCell ?_ ?_ _); rotate_left; (first | omega | (focus (simp; done)) | (focus (simp; omega)))) | ((with_reducible refine ex_chg ?_ _ ?_); rotate_left; (first | assumption | (exact Hid.out (by assumption)))) | exact ex_over)) (by (try unfold Ov); repeat (first | with_reducible exact ex_over | with_reducible exact over_self _ | with_reducible refine ex_undrew ?_ | with_reducible refine ex_into ?_ _ | with_reducible refine ex_alloc ?_ _ | with_reducible refine ex_drew ?_ | ((with_reducible refine ex_setCell ?_ ?_ _); rotate_left; (first | omega | (focus (simp; done)) | (focus (simp; omega)))) | ((with_reducible refine ex_chg ?_ _ ?_); rotate_left; (first | assumption | (exact Hid.out (by assumption)))) | exact ex_over)) (by first | assumption | (simp; done) | (simp; omega) | omega) (by first | assumption | (simp; done) | (simp; omega) | omega) (by (repeat with_reducible refine Sl.drew ?_); exact Sl.one_new (y := x) (by simp; try omega)) (by simp only [List.length_append, List.length_singleton, List.length_nil]; unfold maxLen; omega) (by simp only [List.length_append, List.length_singleton, List.length_nil]; omega) ?_; intro v' x' hown' _ _)
          go_roundw
          case rel => exact ⟨k + 1, by omega, by go_num, (by (try unfold Ov); repeat (first | with_reducible exact ex_over | with_reducible exact over_self _ | with_reducible refine ex_undrew ?_ | with_reducible refine ex_into ?_ _ | with_reducible refine ex_alloc ?_ _ | with_reducible refine ex_drew ?_ | ((with_reducible refine ex_setCell ?_ ?_ _); rotate_left; (first | omega | (focus (simp; done)) | (focus (simp; omega)))) | ((with_reducible refine ex_chg ?_ _ ?_); rotate_left; (first | assumption | (exact Hid.out (by assumption)))) | exact ex_over)), by rw [HS.out]; exact hown'⟩
          case measure => (simp [intOf]; try omega)
        · have HS := hid (show riseC (xs.take (k + 1)) = acc by rw [hst]; unfold rstep; rw [if_neg hc])
          have hlt2 : ¬ acc[acc.length - 1].t < xs[k].t := fun h => hc (hci.2 h)
          clear hst hr1 hr2 hci hc
          generalize acc[acc.length - 1] = y at *
          generalize xs[k] = x at *
          go_wp2_with fail
          refine wp_region_over (by kernel_rfl) (by kernel_rfl) ?_
          repeat (go_big_quiet_step ((fail)))
          refine wpQuiet_nil ?_
          intro _ hw'
          obtain ⟨nq, rfl⟩ := hw'
          go_wp2_with fail
          go_roundw
          case rel => exact ⟨k + 1, by omega, by go_num, (by (try unfold Ov); repeat (first | with_reducible exact ex_over | with_reducible exact over_self _ | with_reducible refine ex_undrew ?_ | with_reducible refine ex_into ?_ _ | with_reducible refine ex_alloc ?_ _ | with_reducible refine ex_drew ?_ | ((with_reducible refine ex_setCell ?_ ?_ _); rotate_left; (first | omega | (focus (simp; done)) | (focus (simp; omega)))) | ((with_reducible refine ex_chg ?_ _ ?_); rotate_left; (first | assumption | (exact Hid.out (by assumption)))) | exact ex_over)), by rw [HS.out]; exact (by repeat (first | with_reducible exact HO.out | ((with_reducible refine Own.set_ne ?_ ?_ _); rotate_left; (first | assumption | (focus (simp; done)) | (focus (simp [Value.ownBlock]; done)) | (focus (simp [Value.ownBlock]; omega)))) | ((with_reducible refine Own.in_some ?_ _ ?_); rotate_left; (first | assumption | (focus (simp; done)) | (focus (simp; omega)))) | ((with_reducible refine Own.in_one ?_ _ ?_); rotate_left; (first | assumption | (focus (simp [Value.ownBlock]; done)) | (focus (simp [Value.ownBlock]; omega)))) | ((with_reducible refine Own.chg ?_ (chg_chg _ _ _) ?_); rotate_left; (first | assumption | (focus (simp; done)) | (focus (simp; omega)))) | with_reducible refine Own.over ?_ _ | with_reducible refine Own.alloc ?_ _ | with_reducible refine Own.drew ?_ | exact HO.out))⟩
          case measure => (simp [intOf]; try omega)
    · obtain rfl : k = xs.length := by omega
      rw [List.take_length] at *
      go_wp2_with fail
      go_ret
      exact ⟨(by (try unfold Ov); repeat (first | with_reducible exact ex_over | with_reducible exact over_self _ | with_reducible refine ex_undrew ?_ | with_reducible refine ex_into ?_ _ | with_reducible refine ex_alloc ?_ _ | with_reducible refine ex_drew ?_ | ((with_reducible refine ex_setCell ?_ ?_ _); rotate_left; (first | omega | (focus (simp; done)) | (focus (simp; omega)))) | ((with_reducible refine ex_chg ?_ _ ?_); rotate_left; (first | assumption | (exact Hid.out (by assumption)))) | exact ex_over)), _, rfl, hown⟩

theorem Sm.eq_of {x y : Sm} (h1 : x.t = y.t) (h2 : x.v = y.v) : x = y := by cases x; cases y; simp_all
set_option maxRecDepth 100000 in
set_option maxHeartbeats 4000000 in
theorem rcsame_any (xs ys : List Sm) (hl : xs.length ≤ 1000000) (a : Option Addr) (c : Nat) (b : Option Addr) (d : Nat) (w : World) (h1 : SlM w a c xs) (h2 : SlM w b d ys) :
    Calls Tryd.prog 27 #[.slice a xs.length c, .slice b ys.length d] w (Ret w (.bool (decide (xs = ys)))) := by
  by_cases hlen : xs.length = ys.length
  · have HL := hid hlen
    rw [← hlen]
    clear hlen
    go_enter Tryd.func27, Tryd.ntmps27
    go_wp2_with fail
    go_loopw [5] (fun i wr => ∃ (k : Nat), k ≤ xs.length ∧ i = .int .i64 (k : Nat) ∧ Ov w wr ∧ Hid (xs.take k = ys.take k)) (fun i _ => xs.length - (intOf i).toNat)
    case atStart => exact ⟨0, Nat.zero_le _, rfl, (by (try unfold Ov); repeat (first | with_reducible exact ex_over | with_reducible exact over_self _ | with_reducible refine ex_undrew ?_ | with_reducible refine ex_into ?_ _ | with_reducible refine ex_alloc ?_ _ | with_reducible refine ex_drew ?_ | ((with_reducible refine ex_setCell ?_ ?_ _); rotate_left; (first | omega | (focus (simp; done)) | (focus (simp; omega)))) | ((with_reducible refine ex_chg ?_ _ ?_); rotate_left; (first | assumption | (exact Hid.out (by assumption)))) | exact ex_over)), hid rfl⟩
    case round =>
      obtain ⟨k, hk, rfl, ⟨e0, rfl⟩, HE⟩ := hrel
      by_cases hlt : k < xs.length
      · have hlt2 : k < ys.length := HL.out ▸ hlt
        obtain ⟨b6, o6, rfl, hb6, k0, k1⟩ := SlM.at_ h1 hlt
        obtain ⟨b7, o7, rfl, hb7, j0, j1⟩ := SlM.at_ h2 hlt2
        have hx := hid (takeC_get hlt)
        have hy := hid (takeC_get hlt2)
        by_cases hxy : xs[k] = ys[k]
        · have HN : Hid (xs.take (k + 1) = ys.take (k + 1)) := hid (by rw [hx.out, hy.out, HE.out, hxy])
          rw [← hxy] at j0 j1
          clear hx hy hxy
          generalize xs[k] = x at *
          go_wp2_with fail
          refine wp_region_over (by kernel_rfl) (by kernel_rfl) ?_
          repeat (go_big_quiet_step ((fail)))
          refine wpQuiet_nil ?_
          intro _ hw'
          obtain ⟨nq, rfl⟩ := hw'
          go_wp2_with fail
          go_roundw
          case rel => exact ⟨k + 1, by omega, by go_num, (by (try unfold Ov); repeat (first | with_reducible exact ex_over | with_reducible exact over_self _ | with_reducible refine ex_undrew ?_ | with_reducible refine ex_into ?_ _ | with_reducible refine ex_alloc ?_ _ | with_reducible refine ex_drew ?_ | ((with_reducible refine ex_setCell ?_ ?_ _); rotate_left; (first | omega | (focus (simp; done)) | (focus (simp; omega)))) | ((with_reducible refine ex_chg ?_ _ ?_); rotate_left; (first | assumption | (exact Hid.out (by assumption)))) | exact ex_over)), HN⟩
          case measure => (simp [intOf]; try omega)
        · have HN : Hid (decide (xs = ys) = false) := hid (decide_eq_false (fun h => hxy (by subst h; rfl)))
          have hd : xs[k].t ≠ ys[k].t ∨ xs[k].v ≠ ys[k].v := by
            by_cases h : xs[k].t = ys[k].t
            · exact .inr fun h' => hxy (Sm.eq_of h h')
            · exact .inl h
          rw [HN.out]
          clear hx hy hxy HN
          generalize xs[k] = x at *
          generalize ys[k] = y at *
          rcases hd with hd | hd
          · have hd' : (x.t == y.t) = false := by simp; exact hd
            go_wp2_with fail
            refine wp_region_over (by kernel_rfl) (by kernel_rfl) ?_
            repeat (go_big_quiet_step ((fail)))
            refine wpQuiet_nil ?_
            intro _ hw'
            obtain ⟨nq, rfl⟩ := hw'
            go_wp2_with fail
            go_ret
            exact ⟨(by (try unfold Ov); repeat (first | with_reducible exact ex_over | with_reducible exact over_self _ | with_reducible refine ex_undrew ?_ | with_reducible refine ex_into ?_ _ | with_reducible refine ex_alloc ?_ _ | with_reducible refine ex_drew ?_ | ((with_reducible refine ex_setCell ?_ ?_ _); rotate_left; (first | omega | (focus (simp; done)) | (focus (simp; omega)))) | ((with_reducible refine ex_chg ?_ _ ?_); rotate_left; (first | assumption | (exact Hid.out (by assumption)))) | exact ex_over)), rfl⟩
          · have hd' : ((x.v : Int) == (y.v : Int)) = false := by simp; omega
            go_wp2_with fail
            refine wp_region_over (by kernel_rfl) (by kernel_rfl) ?_
            repeat (go_big_quiet_step ((fail)))
            refine wpQuiet_nil ?_
            intro _ hw'
            obtain ⟨nq, rfl⟩ := hw'
            go_wp2_with fail
            go_ret
            exact ⟨(by (try unfold Ov); repeat (first | with_reducible exact ex_over | with_reducible exact over_self _ | with_reducible refine ex_undrew ?_ | with_reducible refine ex_into ?_ _ | with_reducible refine ex_alloc ?_ _ | with_reducible refine ex_drew ?_ | ((with_reducible refine ex_setCell ?_ ?_ _); rotate_left; (first | omega | (focus (simp; done)) | (focus (simp; omega)))) | ((with_reducible refine ex_chg ?_ _ ?_); rotate_left; (first | assumption | (exact Hid.out (by assumption)))) | exact ex_over)), rfl⟩
      · have HN : Hid (decide (xs = ys) = true) := hid (decide_eq_true (by have h := HE.out; rw [List.take_of_length_le (by omega), List.take_of_length_le (by have := HL.out; omega)] at h; exact h))
        obtain rfl : k = xs.length := by omega
        go_wp2_with fail
        go_ret
        exact ⟨(by (try unfold Ov); repeat (first | with_reducible exact ex_over | with_reducible exact over_self _ | with_reducible refine ex_undrew ?_ | with_reducible refine ex_into ?_ _ | with_reducible refine ex_alloc ?_ _ | with_reducible refine ex_drew ?_ | ((with_reducible refine ex_setCell ?_ ?_ _); rotate_left; (first | omega | (focus (simp; done)) | (focus (simp; omega)))) | ((with_reducible refine ex_chg ?_ _ ?_); rotate_left; (first | assumption | (exact Hid.out (by assumption)))) | exact ex_over)), by rw [HN.out]; rfl⟩
  · have HN : Hid (decide (xs = ys) = false) := hid (decide_eq_false (fun h => hlen (by rw [h])))
    rw [HN.out]
    have h' : ((xs.length : Int) != (ys.length : Int)) = true := by simp; omega
    go_enter Tryd.func27, Tryd.ntmps27
    go_wp2_with fail
    go_ret
    exact ⟨(by (try unfold Ov); repeat (first | with_reducible exact ex_over | with_reducible exact over_self _ | with_reducible refine ex_undrew ?_ | with_reducible refine ex_into ?_ _ | with_reducible refine ex_alloc ?_ _ | with_reducible refine ex_drew ?_ | ((with_reducible refine ex_setCell ?_ ?_ _); rotate_left; (first | omega | (focus (simp; done)) | (focus (simp; omega)))) | ((with_reducible refine ex_chg ?_ _ ?_); rotate_left; (first | assumption | (exact Hid.out (by assumption)))) | exact ex_over)), rfl⟩
end Go.Proofs.YthljlajdkdgieaaDoor
