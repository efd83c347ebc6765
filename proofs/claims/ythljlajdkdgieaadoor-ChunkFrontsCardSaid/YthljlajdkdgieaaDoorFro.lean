/- Walks: ChunkFronts. -/
import Derived.Test.YthljlajdkdgieaaDoorBak
import Derived.Test.YthljlajdkdgieaaDoorCut
namespace Go.Proofs.YthljlajdkdgieaaDoor
set_option linter.unusedVariables false
set_option linter.unusedSimpArgs false
open Go.RowKit
attribute [local go_sem] over_drew chg_drew

theorem len_step {xs : List Sm} (hx : ∀ s ∈ xs, s.wf) (hl : xs.length ≤ 1000000) {j : Nat} (hj : j < xs.length) : (bitsC En.zero (xs.take j)).length < (bitsC En.zero (xs.take (j + 1))).length := by
  have hk := knowZ (xs := xs.take j) (fun s hs => hx s (List.mem_of_mem_take hs)) (by rw [List.length_take]; omega)
  have := laid_len (t := xs[j].t) hk.1 hk.2.1 (hx xs[j] (List.getElem_mem hj)).2
  rw [takeC_get hj, bitsC_snoc, List.length_append]; omega
theorem len_mono {xs : List Sm} (hx : ∀ s ∈ xs, s.wf) (hl : xs.length ≤ 1000000) {j : Nat} : ∀ {k : Nat}, j ≤ k → k ≤ xs.length → (bitsC En.zero (xs.take j)).length ≤ (bitsC En.zero (xs.take k)).length
  | k, h1, h2 => by
    by_cases h : j = k
    · rw [h]; exact Nat.le_refl _
    · match k, h1, h2, h with
      | 0, h1, _, h => omega
      | k + 1, h1, h2, h => exact Nat.le_trans (len_mono hx hl (k := k) (by omega) (by omega)) (Nat.le_of_lt (len_step hx hl (by omega)))
/-- Where a place stands among the ends. -/
def fnd (xs : List Sm) (at_ : Nat) : Nat → Int
  | 0 => if at_ = 0 then 0 else -1
  | j + 1 => if (bitsC En.zero (xs.take (j + 1))).length = at_ then ((j + 1 : Nat) : Int) else fnd xs at_ j
theorem fnd_none {xs : List Sm} {at_ : Nat} : ∀ {m : Nat}, (∀ k ≤ m, (bitsC En.zero (xs.take k)).length ≠ at_) → fnd xs at_ m = -1
  | 0, h => by unfold fnd; rw [if_neg]; intro h0; exact h 0 (Nat.le_refl _) (by rw [h0]; rfl)
  | m + 1, h => by unfold fnd; rw [if_neg (h _ (Nat.le_refl _)), fnd_none (fun k hk => h k (by omega))]
theorem fnd_some {xs : List Sm} (hx : ∀ s ∈ xs, s.wf) (hl : xs.length ≤ 1000000) {at_ k : Nat} (hk : (bitsC En.zero (xs.take k)).length = at_) : ∀ {m : Nat}, k ≤ m → m ≤ xs.length → fnd xs at_ m = k
  | 0, h1, _ => by
    obtain rfl : k = 0 := by omega
    unfold fnd; rw [if_pos (by rw [← hk]; rfl)]; rfl
  | m + 1, h1, h2 => by
    unfold fnd
    by_cases h : k = m + 1
    · rw [if_pos (by rw [← h]; exact hk), h]
    · have h3 := len_mono hx hl (j := k) (k := m) (by omega) (by omega)
      have h4 := len_step hx hl (j := m) (by omega)
      rw [if_neg (by omega)]
      exact fnd_some hx hl hk (by omega) (by omega)
theorem bits_take {xs : List Sm} {k : Nat} : (bitsC En.zero xs).take (bitsC En.zero (xs.take k)).length = bitsC En.zero (xs.take k) := by
  conv => lhs; arg 2; rw [← List.take_append_drop k xs, bitsC_app]
  exact List.take_left' rfl
theorem good_take {xs : List Sm} (g : goodC En.zero xs) (k : Nat) : goodC En.zero (xs.take k) := by
  have h := g; rw [← List.take_append_drop k xs, goodC_app] at h; exact h.1
/-- A front that no samples have is none. -/
theorem front_no {xs : List Sm} (hx : ∀ s ∈ xs, s.wf) (hl : xs.length ≤ 1000000) (g : goodC En.zero xs) {at_ : Nat} (ha : at_ ≤ (bitsC En.zero xs).length) (hn : ∀ k ≤ xs.length, (bitsC En.zero (xs.take k)).length ≠ at_) {ys : List Sm} {er : Nat} (h : RunC ((bitsC En.zero xs).take at_) ys er) (hyl : ys.length ≤ 1000000) : er = 61 := by
  rcases h.fin with ⟨rfl, _⟩ | ⟨h1, _⟩
  · have hw := h.whole
    obtain ⟨zs, hz, _⟩ := front_of zeroE_ok.1 zeroE_ok.2 ys xs ((bitsC En.zero xs).drop at_) h.rd.wf hx (by simp [En.zero]; omega) h.rd.good g (by rw [hw, List.take_append_drop])
    exfalso
    refine hn ys.length (by rw [hz]; simp) ?_
    have e1 : xs.take ys.length = ys := by rw [hz]; simp
    rw [e1, hw, List.length_take, Nat.min_eq_left ha]
  · exact h1
theorem cut_front (L : List Bool) (hl : L.length ≤ 900000) (n : Nat) (hn : n ≤ L.length) (a : Option Addr) (cap : Nat) (w : World) (hs : SlB w a cap (pack L)) :
    Calls Tryd.prog 42 #[bv a (pack L).length cap L.length, .int .i64 0, .int .i64 (n : Nat)] w (PutPost w (L.take n)) := by
  have h := bcut_any L hl 0 n (by omega) a cap w hs
  rw [Nat.zero_add, List.drop_zero] at h
  exact h

/-- Samples as a slice of a told length. -/
def AllK (w : World) (k : Nat) (xs : List Sm) (ev : Value) (er : Value) (en : Ending) (w' : World) : Prop :=
  ∃ a c, en = .returned (.tuple #[.slice a k c, ev, er]) ∧ (∃ x, w' = over w x) ∧ SlM w' a c xs
theorem AllS.k {w w' : World} {k : Nat} {xs : List Sm} {ev er : Value} {en : Ending} (h : AllS w xs ev er en w') (hk : xs.length = k) : AllK w k xs ev er en w' := by subst hk; exact h
theorem Sl.front {α : Type} {sz : Nat} {cells : α → List Value} {w : World} {a : Option Addr} {cap : Nat} {xs : List α} (h : Sl sz cells w a cap xs) (n : Nat) : Sl sz cells w a cap (xs.take n) :=
  ⟨by rw [List.length_take]; have := h.le; omega, h.max, h.nul, fun i x hx => h.rec_ i x (by rw [List.getElem?_take] at hx; split at hx; exact hx; cases hx)⟩
set_option maxRecDepth 100000 in
set_option maxHeartbeats 8000000 in
theorem chunkFronts_any (xs : List Sm) (hx : ∀ s ∈ xs, s.wf) (a : Option Addr) (cap : Nat) (z : Int) (hz : -9223372036854775808 ≤ z ∧ z ≤ 9223372036854775807) (w : World) (hT : TabW w) (hs : SlM w a cap xs) :
    Calls Tryd.prog 17 #[.slice a xs.length cap, .int .i64 z] w (Ret w (.bool true)) := by
  have HK := hid (fun W hW => known06_any W hW)
  by_cases hlen : (30 : Int) < (xs.length : Int)
  · go_enter Tryd.func17, Tryd.ntmps17
    go_wp2_with (go_at_call 24; (with_reducible refine (HK.out _ (by repeat (first | with_reducible exact hT | with_reducible refine TabW.over ?_ _ | with_reducible refine TabW.alloc ?_ _ | with_reducible refine TabW.drew ?_ | ((with_reducible refine TabW.setCell ?_ ?_ _); rotate_left; (first | (focus (simp; done)) | (focus (simp; omega)))) | ((with_reducible refine TabW.chg ?_ _ ?_); rotate_left; (first | assumption | (focus (simp; done)) | (focus (simp; omega)))) | exact hT))).mono ?_); rintro _ _ ⟨⟨e1, rfl⟩, rfl⟩)
    go_ret
    exact ⟨(by (try unfold Ov); repeat (first | with_reducible exact ex_over | with_reducible exact over_self _ | with_reducible refine ex_undrew ?_ | with_reducible refine ex_into ?_ _ | with_reducible refine ex_alloc ?_ _ | with_reducible refine ex_drew ?_ | ((with_reducible refine ex_setCell ?_ ?_ _); rotate_left; (first | omega | (focus (simp; done)) | (focus (simp; omega)))) | ((with_reducible refine ex_chg ?_ _ ?_); rotate_left; (first | assumption | (exact Hid.out (by assumption)))) | exact ex_over)), rfl⟩
  obtain ⟨p1, p2, p3⟩ := rise_ok xs hx
  have HX := hid (fun W h => rising_any xs hx (by omega) a cap W h)
  generalize riseC xs = XS at *
  have hb := bitsZ_len p1 (by omega)
  have HO := hid (fun b d W h1 h2 => cof_good p1 (by omega) p2 b d W h1 h2)
  have HE := hid (fun b d W h1 h2 => ends_good p1 (by omega) p2 b d W h1 h2)
  obtain ⟨n, hn, hnl⟩ : ∃ n : Nat, max z 0 % (((bitsC En.zero XS).length : Int) + 1) = (n : Int) ∧ n ≤ (bitsC En.zero XS).length := by
    have h1 := Int.emod_nonneg (max z 0) (b := ((bitsC En.zero XS).length : Int) + 1) (by omega)
    have h2 := Int.emod_lt_of_pos (max z 0) (b := ((bitsC En.zero XS).length : Int) + 1) (by omega)
    exact ⟨(max z 0 % (((bitsC En.zero XS).length : Int) + 1)).toNat, by omega, by omega⟩
  have HC := hid (fun a c W h => cut_front (bitsC En.zero XS) (by omega) n hnl a c W h)
  have hul := endsK_len XS XS.length
  have hbl : (bitsC En.zero XS).length ≤ 700000 := by omega
  have hua : ∀ j, (h : j < (endsK XS XS.length).length) → (endsK XS XS.length)[j] = (bitsC En.zero (XS.take (j + 1))).length := fun j h => endsK_at XS h
  by_cases hex : ∃ K, K ≤ XS.length ∧ (bitsC En.zero (XS.take K)).length = n
  · obtain ⟨K, hKl, hK⟩ := hex
    have HF := hid (fnd_some p1 (by omega) hK hKl (Nat.le_refl _))
    have hbt := bits_take (xs := XS) (k := K)
    rw [hK] at hbt
    rw [hbt] at HC
    have hml : (XS.take K).length = K := by rw [List.length_take, Nat.min_eq_left hKl]
    have HA := hid (fun b d W h1 h2 => all_good (xs := XS.take K) (fun s hs => p1 s (List.mem_of_mem_take hs)) (by omega) (good_take p2 K) b d W h1 h2)
    have HS := hid (fun a c b d W h1 h2 => rcsame_any (XS.take K) (XS.take K) (by omega) a c b d W h1 h2)
    rw [decide_eq_true rfl, hml] at HS
    have HA' : Hid (∀ b d W, TabW W → SlB W b d (pack (bitsC En.zero (XS.take K))) → Calls Tryd.prog 36 #[bv b (pack (bitsC En.zero (XS.take K))).length d (bitsC En.zero (XS.take K)).length] W (AllK W K (XS.take K) (knowC En.zero (XS.take K)).v (.int .u16 0))) := hid (fun b d W h1 h2 => (HA.out b d W h1 h2).mono fun _ _ h => h.k hml)
    obtain ⟨MS, hMS⟩ : ∃ MS, XS.take K = MS := ⟨_, rfl⟩
    rw [hMS] at HA' HS HC
    have HMS := hid hMS
    have hb2 : (bitsC En.zero MS).length = n := by rw [← hMS]; exact hK
    have HUA := hid hua
    have HUL := hid hul
    have h30 : XS.length ≤ 30 := by omega
    clear hbt hml HA hMS hua hul hK
    obtain ⟨LK, hLK⟩ : ∃ LK, bitsC En.zero MS = LK := ⟨_, rfl⟩
    rw [hLK] at HA' HC
    generalize knowC En.zero MS = TK at *
    generalize knowC En.zero XS = T at *
    clear hLK hb2
    generalize bitsC En.zero XS = L at *
    generalize endsK XS XS.length = US at *
    clear hb p1 p2 p3
    by_cases h0 : n = 0
    · have HF0 : Hid (fnd XS n 0 = 0) := hid (by unfold fnd; rw [if_pos h0])
      have hn0 : ((n : Int) == 0) = true := by rw [h0]; rfl
      clear h0
      go_enter Tryd.func17, Tryd.ntmps17
      go_wp2_with (first
        | (go_at_call 24; (with_reducible refine (HK.out _ (by repeat (first | with_reducible exact hT | with_reducible refine TabW.over ?_ _ | with_reducible refine TabW.alloc ?_ _ | with_reducible refine TabW.drew ?_ | ((with_reducible refine TabW.setCell ?_ ?_ _); rotate_left; (first | (focus (simp; done)) | (focus (simp; omega)))) | ((with_reducible refine TabW.chg ?_ _ ?_); rotate_left; (first | assumption | (focus (simp; done)) | (focus (simp; omega)))) | exact hT))).mono ?_); rintro _ _ ⟨⟨e1, rfl⟩, rfl⟩)
        | ((go_at_call 25; (with_reducible refine (HX.out _ (by repeat (first | with_reducible exact hs | with_reducible refine Sl.over ?_ _ | with_reducible refine Sl.alloc ?_ _ | with_reducible refine Sl.drew ?_ | exact hs))).mono ?_); rintro _ _ ⟨⟨e2, rfl⟩, v2, rfl, o2⟩; obtain ⟨a2, c2, rfl, s2⟩ := Own.slice Sm.cs_len o2; clear o2); have le2 : K ≤ c2 := Nat.le_trans hKl s2.le)
        | (go_at_call 26; (with_reducible refine (HO.out _ _ _ (by repeat (first | with_reducible exact hT | with_reducible refine TabW.over ?_ _ | with_reducible refine TabW.alloc ?_ _ | with_reducible refine TabW.drew ?_ | ((with_reducible refine TabW.setCell ?_ ?_ _); rotate_left; (first | (focus (simp; done)) | (focus (simp; omega)))) | ((with_reducible refine TabW.chg ?_ _ ?_); rotate_left; (first | assumption | (focus (simp; done)) | (focus (simp; omega)))) | exact hT)) (by repeat (first | with_reducible exact s2 | with_reducible refine Sl.over ?_ _ | with_reducible refine Sl.alloc ?_ _ | with_reducible refine Sl.drew ?_ | exact s2))).mono ?_); rintro _ _ ⟨a4, c4, rfl, ⟨e4, rfl⟩, s4⟩)
        | (go_at_call 39; (with_reducible refine (HE.out _ _ _ (by repeat (first | with_reducible exact hT | with_reducible refine TabW.over ?_ _ | with_reducible refine TabW.alloc ?_ _ | with_reducible refine TabW.drew ?_ | ((with_reducible refine TabW.setCell ?_ ?_ _); rotate_left; (first | (focus (simp; done)) | (focus (simp; omega)))) | ((with_reducible refine TabW.chg ?_ _ ?_); rotate_left; (first | assumption | (focus (simp; done)) | (focus (simp; omega)))) | exact hT)) (by repeat (first | with_reducible exact s4 | with_reducible refine Sl.over ?_ _ | with_reducible refine Sl.alloc ?_ _ | with_reducible refine Sl.drew ?_ | exact s4))).mono ?_); rintro _ _ ⟨a6, c6, rfl, ⟨e6, rfl⟩, s6⟩)
        | (go_at_call 42; (with_reducible refine (HC.out _ _ _ (by repeat (first | with_reducible exact s4 | with_reducible refine Sl.over ?_ _ | with_reducible refine Sl.alloc ?_ _ | with_reducible refine Sl.drew ?_ | exact s4))).mono ?_); rintro _ _ ⟨a7, c7, rfl, ⟨e7, rfl⟩, o7⟩; have s7 := (Own.slice' bcs_len o7).2; clear o7)
        | (go_at_call 36; (with_reducible refine (HA'.out _ _ _ (by repeat (first | with_reducible exact hT | with_reducible refine TabW.over ?_ _ | with_reducible refine TabW.alloc ?_ _ | with_reducible refine TabW.drew ?_ | ((with_reducible refine TabW.setCell ?_ ?_ _); rotate_left; (first | (focus (simp; done)) | (focus (simp; omega)))) | ((with_reducible refine TabW.chg ?_ _ ?_); rotate_left; (first | assumption | (focus (simp; done)) | (focus (simp; omega)))) | exact hT)) (by repeat (first | with_reducible exact s7 | with_reducible refine Sl.over ?_ _ | with_reducible refine Sl.alloc ?_ _ | with_reducible refine Sl.drew ?_ | exact s7))).mono ?_); rintro _ _ ⟨a8, c8, rfl, ⟨e8, rfl⟩, s8⟩))
      refine gen_w ?_
      intro W0 hW0
      have O0 : Hid (∃ e, W0 = over w e) := hid (by rw [hW0]; exact (by (try unfold Ov); repeat (first | with_reducible exact ex_over | with_reducible exact over_self _ | with_reducible refine ex_undrew ?_ | with_reducible refine ex_into ?_ _ | with_reducible refine ex_alloc ?_ _ | with_reducible refine ex_drew ?_ | ((with_reducible refine ex_setCell ?_ ?_ _); rotate_left; (first | omega | (focus (simp; done)) | (focus (simp; omega)))) | ((with_reducible refine ex_chg ?_ _ ?_); rotate_left; (first | assumption | (exact Hid.out (by assumption)))) | exact ex_over)))
      have S2 : Hid (SlM W0 a2 c2 XS) := hid (by rw [hW0]; exact (by repeat (first | with_reducible exact s2 | with_reducible refine Sl.over ?_ _ | with_reducible refine Sl.alloc ?_ _ | with_reducible refine Sl.drew ?_ | exact s2)))
      have S6 : Hid (SlI W0 a6 c6 US) := hid (by rw [hW0]; exact (by repeat (first | with_reducible exact s6 | with_reducible refine Sl.over ?_ _ | with_reducible refine Sl.alloc ?_ _ | with_reducible refine Sl.drew ?_ | exact s6)))
      have S8 : Hid (SlM W0 a8 c8 MS) := hid (by rw [hW0]; exact (by repeat (first | with_reducible exact s8 | with_reducible refine Sl.over ?_ _ | with_reducible refine Sl.alloc ?_ _ | with_reducible refine Sl.drew ?_ | exact s8)))
      clear hW0 s2 s4 s6 s7 s8
      have hu1 : US.length ≤ 30 := by have := HUL.out; omega
      go_loopw [17, 18] (fun f j wr => ∃ (k : Nat), k ≤ XS.length ∧ j = .int .i64 (k : Nat) ∧ f = .int .i64 (fnd XS n k) ∧ Ov W0 wr) (fun _ j _ => XS.length - (intOf j).toNat)
      case atStart => exact ⟨0, Nat.zero_le _, rfl, by rw [HF0.out], (by (try unfold Ov); repeat (first | with_reducible exact ex_over | with_reducible exact over_self _ | with_reducible refine ex_undrew ?_ | with_reducible refine ex_into ?_ _ | with_reducible refine ex_alloc ?_ _ | with_reducible refine ex_drew ?_ | ((with_reducible refine ex_setCell ?_ ?_ _); rotate_left; (first | omega | (focus (simp; done)) | (focus (simp; omega)))) | ((with_reducible refine ex_chg ?_ _ ?_); rotate_left; (first | assumption | (exact Hid.out (by assumption)))) | exact ex_over))⟩
      case round =>
        obtain ⟨k, hk, rfl, rfl, ⟨e0, rfl⟩⟩ := hrel
        by_cases hlt : k < XS.length
        · have hlu : k < US.length := by have := HUL.out; omega
          obtain ⟨b7, o7, rfl, hb7, k0⟩ := SlI.at_ S6.out hlu
          have hv := HUA.out k hlu
          by_cases he : (bitsC En.zero (XS.take (k + 1))).length = n
          · have HN : Hid (fnd XS n (k + 1) = ((k + 1 : Nat) : Int)) := hid (by show (if _ then _ else _) = _; rw [if_pos he])
            rw [hv, he] at k0
            clear hv he
            go_wp2_with fail
            go_roundw
            case rel => exact ⟨k + 1, by omega, by go_num, by rw [HN.out]; go_num, (by (try unfold Ov); repeat (first | with_reducible exact ex_over | with_reducible exact over_self _ | with_reducible refine ex_undrew ?_ | with_reducible refine ex_into ?_ _ | with_reducible refine ex_alloc ?_ _ | with_reducible refine ex_drew ?_ | ((with_reducible refine ex_setCell ?_ ?_ _); rotate_left; (first | omega | (focus (simp; done)) | (focus (simp; omega)))) | ((with_reducible refine ex_chg ?_ _ ?_); rotate_left; (first | assumption | (exact Hid.out (by assumption)))) | exact ex_over))⟩
            case measure => (simp [intOf]; try omega)
          · have HN : Hid (fnd XS n (k + 1) = fnd XS n k) := hid (by show (if _ then _ else _) = _; rw [if_neg he])
            rw [hv] at k0
            obtain ⟨v, hve⟩ : ∃ v, (bitsC En.zero (XS.take (k + 1))).length = v := ⟨_, rfl⟩
            rw [hve] at k0 he
            have hvn : ((v : Int) == (n : Int)) = false := by rw [beq_eq_false_iff_ne]; omega
            clear hv he hve
            go_wp2_with fail
            go_roundw
            case rel => exact ⟨k + 1, by omega, by go_num, by rw [HN.out], (by (try unfold Ov); repeat (first | with_reducible exact ex_over | with_reducible exact over_self _ | with_reducible refine ex_undrew ?_ | with_reducible refine ex_into ?_ _ | with_reducible refine ex_alloc ?_ _ | with_reducible refine ex_drew ?_ | ((with_reducible refine ex_setCell ?_ ?_ _); rotate_left; (first | omega | (focus (simp; done)) | (focus (simp; omega)))) | ((with_reducible refine ex_chg ?_ _ ?_); rotate_left; (first | assumption | (exact Hid.out (by assumption)))) | exact ex_over))⟩
            case measure => (simp [intOf]; try omega)
        · obtain rfl : k = XS.length := by omega
          have hlu : ¬ XS.length < US.length := by have := HUL.out; omega
          rw [HF.out]
          go_wp2_with ((go_at_call 27; (with_reducible refine (HS.out _ _ _ _ _ (by repeat (first | with_reducible exact S8.out | with_reducible refine Sl.over ?_ _ | with_reducible refine Sl.alloc ?_ _ | with_reducible refine Sl.drew ?_ | exact S8.out)) (by repeat (first | with_reducible exact (by have h := Sl.front S2.out K; rw [HMS.out] at h; exact h) | with_reducible refine Sl.over ?_ _ | with_reducible refine Sl.alloc ?_ _ | with_reducible refine Sl.drew ?_ | exact (by have h := Sl.front S2.out K; rw [HMS.out] at h; exact h)))).mono ?_); rintro _ _ ⟨⟨e9, rfl⟩, rfl⟩))
          go_ret
          exact ⟨(by (try unfold Ov); repeat (first | with_reducible exact O0.out | with_reducible exact O0.out | with_reducible refine ex_undrew ?_ | with_reducible refine ex_into ?_ _ | with_reducible refine ex_alloc ?_ _ | with_reducible refine ex_drew ?_ | ((with_reducible refine ex_setCell ?_ ?_ _); rotate_left; (first | omega | (focus (simp; done)) | (focus (simp; omega)))) | ((with_reducible refine ex_chg ?_ _ ?_); rotate_left; (first | assumption | (exact Hid.out (by assumption)))) | exact ex_over)), rfl⟩
    · have HF0 : Hid (fnd XS n 0 = -1) := hid (by unfold fnd; rw [if_neg h0])
      have hn0 : ((n : Int) == 0) = false := by rw [beq_eq_false_iff_ne]; omega
      clear h0
      go_enter Tryd.func17, Tryd.ntmps17
      go_wp2_with (first
        | (go_at_call 24; (with_reducible refine (HK.out _ (by repeat (first | with_reducible exact hT | with_reducible refine TabW.over ?_ _ | with_reducible refine TabW.alloc ?_ _ | with_reducible refine TabW.drew ?_ | ((with_reducible refine TabW.setCell ?_ ?_ _); rotate_left; (first | (focus (simp; done)) | (focus (simp; omega)))) | ((with_reducible refine TabW.chg ?_ _ ?_); rotate_left; (first | assumption | (focus (simp; done)) | (focus (simp; omega)))) | exact hT))).mono ?_); rintro _ _ ⟨⟨e1, rfl⟩, rfl⟩)
        | ((go_at_call 25; (with_reducible refine (HX.out _ (by repeat (first | with_reducible exact hs | with_reducible refine Sl.over ?_ _ | with_reducible refine Sl.alloc ?_ _ | with_reducible refine Sl.drew ?_ | exact hs))).mono ?_); rintro _ _ ⟨⟨e2, rfl⟩, v2, rfl, o2⟩; obtain ⟨a2, c2, rfl, s2⟩ := Own.slice Sm.cs_len o2; clear o2); have le2 : K ≤ c2 := Nat.le_trans hKl s2.le)
        | (go_at_call 26; (with_reducible refine (HO.out _ _ _ (by repeat (first | with_reducible exact hT | with_reducible refine TabW.over ?_ _ | with_reducible refine TabW.alloc ?_ _ | with_reducible refine TabW.drew ?_ | ((with_reducible refine TabW.setCell ?_ ?_ _); rotate_left; (first | (focus (simp; done)) | (focus (simp; omega)))) | ((with_reducible refine TabW.chg ?_ _ ?_); rotate_left; (first | assumption | (focus (simp; done)) | (focus (simp; omega)))) | exact hT)) (by repeat (first | with_reducible exact s2 | with_reducible refine Sl.over ?_ _ | with_reducible refine Sl.alloc ?_ _ | with_reducible refine Sl.drew ?_ | exact s2))).mono ?_); rintro _ _ ⟨a4, c4, rfl, ⟨e4, rfl⟩, s4⟩)
        | (go_at_call 39; (with_reducible refine (HE.out _ _ _ (by repeat (first | with_reducible exact hT | with_reducible refine TabW.over ?_ _ | with_reducible refine TabW.alloc ?_ _ | with_reducible refine TabW.drew ?_ | ((with_reducible refine TabW.setCell ?_ ?_ _); rotate_left; (first | (focus (simp; done)) | (focus (simp; omega)))) | ((with_reducible refine TabW.chg ?_ _ ?_); rotate_left; (first | assumption | (focus (simp; done)) | (focus (simp; omega)))) | exact hT)) (by repeat (first | with_reducible exact s4 | with_reducible refine Sl.over ?_ _ | with_reducible refine Sl.alloc ?_ _ | with_reducible refine Sl.drew ?_ | exact s4))).mono ?_); rintro _ _ ⟨a6, c6, rfl, ⟨e6, rfl⟩, s6⟩)
        | (go_at_call 42; (with_reducible refine (HC.out _ _ _ (by repeat (first | with_reducible exact s4 | with_reducible refine Sl.over ?_ _ | with_reducible refine Sl.alloc ?_ _ | with_reducible refine Sl.drew ?_ | exact s4))).mono ?_); rintro _ _ ⟨a7, c7, rfl, ⟨e7, rfl⟩, o7⟩; have s7 := (Own.slice' bcs_len o7).2; clear o7)
        | (go_at_call 36; (with_reducible refine (HA'.out _ _ _ (by repeat (first | with_reducible exact hT | with_reducible refine TabW.over ?_ _ | with_reducible refine TabW.alloc ?_ _ | with_reducible refine TabW.drew ?_ | ((with_reducible refine TabW.setCell ?_ ?_ _); rotate_left; (first | (focus (simp; done)) | (focus (simp; omega)))) | ((with_reducible refine TabW.chg ?_ _ ?_); rotate_left; (first | assumption | (focus (simp; done)) | (focus (simp; omega)))) | exact hT)) (by repeat (first | with_reducible exact s7 | with_reducible refine Sl.over ?_ _ | with_reducible refine Sl.alloc ?_ _ | with_reducible refine Sl.drew ?_ | exact s7))).mono ?_); rintro _ _ ⟨a8, c8, rfl, ⟨e8, rfl⟩, s8⟩))
      refine gen_w ?_
      intro W0 hW0
      have O0 : Hid (∃ e, W0 = over w e) := hid (by rw [hW0]; exact (by (try unfold Ov); repeat (first | with_reducible exact ex_over | with_reducible exact over_self _ | with_reducible refine ex_undrew ?_ | with_reducible refine ex_into ?_ _ | with_reducible refine ex_alloc ?_ _ | with_reducible refine ex_drew ?_ | ((with_reducible refine ex_setCell ?_ ?_ _); rotate_left; (first | omega | (focus (simp; done)) | (focus (simp; omega)))) | ((with_reducible refine ex_chg ?_ _ ?_); rotate_left; (first | assumption | (exact Hid.out (by assumption)))) | exact ex_over)))
      have S2 : Hid (SlM W0 a2 c2 XS) := hid (by rw [hW0]; exact (by repeat (first | with_reducible exact s2 | with_reducible refine Sl.over ?_ _ | with_reducible refine Sl.alloc ?_ _ | with_reducible refine Sl.drew ?_ | exact s2)))
      have S6 : Hid (SlI W0 a6 c6 US) := hid (by rw [hW0]; exact (by repeat (first | with_reducible exact s6 | with_reducible refine Sl.over ?_ _ | with_reducible refine Sl.alloc ?_ _ | with_reducible refine Sl.drew ?_ | exact s6)))
      have S8 : Hid (SlM W0 a8 c8 MS) := hid (by rw [hW0]; exact (by repeat (first | with_reducible exact s8 | with_reducible refine Sl.over ?_ _ | with_reducible refine Sl.alloc ?_ _ | with_reducible refine Sl.drew ?_ | exact s8)))
      clear hW0 s2 s4 s6 s7 s8
      have hu1 : US.length ≤ 30 := by have := HUL.out; omega
      go_loopw [17, 18] (fun f j wr => ∃ (k : Nat), k ≤ XS.length ∧ j = .int .i64 (k : Nat) ∧ f = .int .i64 (fnd XS n k) ∧ Ov W0 wr) (fun _ j _ => XS.length - (intOf j).toNat)
      case atStart => exact ⟨0, Nat.zero_le _, rfl, by rw [HF0.out], (by (try unfold Ov); repeat (first | with_reducible exact ex_over | with_reducible exact over_self _ | with_reducible refine ex_undrew ?_ | with_reducible refine ex_into ?_ _ | with_reducible refine ex_alloc ?_ _ | with_reducible refine ex_drew ?_ | ((with_reducible refine ex_setCell ?_ ?_ _); rotate_left; (first | omega | (focus (simp; done)) | (focus (simp; omega)))) | ((with_reducible refine ex_chg ?_ _ ?_); rotate_left; (first | assumption | (exact Hid.out (by assumption)))) | exact ex_over))⟩
      case round =>
        obtain ⟨k, hk, rfl, rfl, ⟨e0, rfl⟩⟩ := hrel
        by_cases hlt : k < XS.length
        · have hlu : k < US.length := by have := HUL.out; omega
          obtain ⟨b7, o7, rfl, hb7, k0⟩ := SlI.at_ S6.out hlu
          have hv := HUA.out k hlu
          by_cases he : (bitsC En.zero (XS.take (k + 1))).length = n
          · have HN : Hid (fnd XS n (k + 1) = ((k + 1 : Nat) : Int)) := hid (by show (if _ then _ else _) = _; rw [if_pos he])
            rw [hv, he] at k0
            clear hv he
            go_wp2_with fail
            go_roundw
            case rel => exact ⟨k + 1, by omega, by go_num, by rw [HN.out]; go_num, (by (try unfold Ov); repeat (first | with_reducible exact ex_over | with_reducible exact over_self _ | with_reducible refine ex_undrew ?_ | with_reducible refine ex_into ?_ _ | with_reducible refine ex_alloc ?_ _ | with_reducible refine ex_drew ?_ | ((with_reducible refine ex_setCell ?_ ?_ _); rotate_left; (first | omega | (focus (simp; done)) | (focus (simp; omega)))) | ((with_reducible refine ex_chg ?_ _ ?_); rotate_left; (first | assumption | (exact Hid.out (by assumption)))) | exact ex_over))⟩
            case measure => (simp [intOf]; try omega)
          · have HN : Hid (fnd XS n (k + 1) = fnd XS n k) := hid (by show (if _ then _ else _) = _; rw [if_neg he])
            rw [hv] at k0
            obtain ⟨v, hve⟩ : ∃ v, (bitsC En.zero (XS.take (k + 1))).length = v := ⟨_, rfl⟩
            rw [hve] at k0 he
            have hvn : ((v : Int) == (n : Int)) = false := by rw [beq_eq_false_iff_ne]; omega
            clear hv he hve
            go_wp2_with fail
            go_roundw
            case rel => exact ⟨k + 1, by omega, by go_num, by rw [HN.out], (by (try unfold Ov); repeat (first | with_reducible exact ex_over | with_reducible exact over_self _ | with_reducible refine ex_undrew ?_ | with_reducible refine ex_into ?_ _ | with_reducible refine ex_alloc ?_ _ | with_reducible refine ex_drew ?_ | ((with_reducible refine ex_setCell ?_ ?_ _); rotate_left; (first | omega | (focus (simp; done)) | (focus (simp; omega)))) | ((with_reducible refine ex_chg ?_ _ ?_); rotate_left; (first | assumption | (exact Hid.out (by assumption)))) | exact ex_over))⟩
            case measure => (simp [intOf]; try omega)
        · obtain rfl : k = XS.length := by omega
          have hlu : ¬ XS.length < US.length := by have := HUL.out; omega
          rw [HF.out]
          go_wp2_with ((go_at_call 27; (with_reducible refine (HS.out _ _ _ _ _ (by repeat (first | with_reducible exact S8.out | with_reducible refine Sl.over ?_ _ | with_reducible refine Sl.alloc ?_ _ | with_reducible refine Sl.drew ?_ | exact S8.out)) (by repeat (first | with_reducible exact (by have h := Sl.front S2.out K; rw [HMS.out] at h; exact h) | with_reducible refine Sl.over ?_ _ | with_reducible refine Sl.alloc ?_ _ | with_reducible refine Sl.drew ?_ | exact (by have h := Sl.front S2.out K; rw [HMS.out] at h; exact h)))).mono ?_); rintro _ _ ⟨⟨e9, rfl⟩, rfl⟩))
          go_ret
          exact ⟨(by (try unfold Ov); repeat (first | with_reducible exact O0.out | with_reducible exact O0.out | with_reducible refine ex_undrew ?_ | with_reducible refine ex_into ?_ _ | with_reducible refine ex_alloc ?_ _ | with_reducible refine ex_drew ?_ | ((with_reducible refine ex_setCell ?_ ?_ _); rotate_left; (first | omega | (focus (simp; done)) | (focus (simp; omega)))) | ((with_reducible refine ex_chg ?_ _ ?_); rotate_left; (first | assumption | (exact Hid.out (by assumption)))) | exact ex_over)), rfl⟩
  · have hno : ∀ K ≤ XS.length, (bitsC En.zero (XS.take K)).length ≠ n := fun K h1 h2 => hex ⟨K, h1, h2⟩
    have HF := hid (fnd_none (xs := XS) (at_ := n) (m := XS.length) hno)
    have hlt : ((bitsC En.zero XS).take n).length ≤ 700000 := by rw [List.length_take]; omega
    obtain ⟨ys, er, hr⟩ := runC_ex ((bitsC En.zero XS).take n) hlt
    have hyl : ys.length ≤ 700000 := by have := hr.rd.len; omega
    obtain rfl : er = 61 := front_no p1 (by omega) p2 hnl hno hr (by omega)
    have h0 : ¬ n = 0 := fun h => hno 0 (Nat.zero_le _) (by rw [h]; rfl)
    have hA := fun b d W h1 h2 => call_any _ _ b d ys 61 (each_ok hlt b d hr) hyl W h1 h2
    rw [if_neg (by decide), if_neg (by decide)] at hA
    obtain ⟨LK, hLK⟩ : ∃ LK, (bitsC En.zero XS).take n = LK := ⟨_, rfl⟩
    rw [hLK] at hA HC
    obtain ⟨MS, hMS⟩ : ∃ MS : List Sm, MS = [] := ⟨_, rfl⟩
    have HA' : Hid (∀ b d W, TabW W → SlB W b d (pack LK) → Calls Tryd.prog 36 #[bv b (pack LK).length d LK.length] W (AllK W 0 MS (.agg #[.int .i64 0, .int .i64 0, .int .i64 0, .bool false, .int .u64 0, .int .u8 0, .int .u8 0]) (.int .u16 61))) := hid (fun b d W q1 q2 => (hA b d W q1 q2).mono fun _ _ h => by rw [hMS]; exact h.s rfl rfl)
    have HUA := hid hua
    have HUL := hid hul
    have h30 : XS.length ≤ 30 := by omega
    clear hA hLK hr hyl hno hex hua hul hlt hMS
    generalize knowC En.zero XS = T at *
    generalize bitsC En.zero XS = L at *
    generalize endsK XS XS.length = US at *
    clear hb p1 p2 p3
    obtain ⟨K, hK0⟩ : ∃ K : Nat, K = 0 := ⟨_, rfl⟩
    have hKl : K ≤ XS.length := by omega
    clear hK0
    have HF0 : Hid (fnd XS n 0 = -1) := hid (by unfold fnd; rw [if_neg h0])
    have hn0 : ((n : Int) == 0) = false := by rw [beq_eq_false_iff_ne]; omega
    clear h0
    go_enter Tryd.func17, Tryd.ntmps17
    go_wp2_with (first
      | (go_at_call 24; (with_reducible refine (HK.out _ (by repeat (first | with_reducible exact hT | with_reducible refine TabW.over ?_ _ | with_reducible refine TabW.alloc ?_ _ | with_reducible refine TabW.drew ?_ | ((with_reducible refine TabW.setCell ?_ ?_ _); rotate_left; (first | (focus (simp; done)) | (focus (simp; omega)))) | ((with_reducible refine TabW.chg ?_ _ ?_); rotate_left; (first | assumption | (focus (simp; done)) | (focus (simp; omega)))) | exact hT))).mono ?_); rintro _ _ ⟨⟨e1, rfl⟩, rfl⟩)
      | ((go_at_call 25; (with_reducible refine (HX.out _ (by repeat (first | with_reducible exact hs | with_reducible refine Sl.over ?_ _ | with_reducible refine Sl.alloc ?_ _ | with_reducible refine Sl.drew ?_ | exact hs))).mono ?_); rintro _ _ ⟨⟨e2, rfl⟩, v2, rfl, o2⟩; obtain ⟨a2, c2, rfl, s2⟩ := Own.slice Sm.cs_len o2; clear o2); have le2 : K ≤ c2 := Nat.le_trans hKl s2.le)
      | (go_at_call 26; (with_reducible refine (HO.out _ _ _ (by repeat (first | with_reducible exact hT | with_reducible refine TabW.over ?_ _ | with_reducible refine TabW.alloc ?_ _ | with_reducible refine TabW.drew ?_ | ((with_reducible refine TabW.setCell ?_ ?_ _); rotate_left; (first | (focus (simp; done)) | (focus (simp; omega)))) | ((with_reducible refine TabW.chg ?_ _ ?_); rotate_left; (first | assumption | (focus (simp; done)) | (focus (simp; omega)))) | exact hT)) (by repeat (first | with_reducible exact s2 | with_reducible refine Sl.over ?_ _ | with_reducible refine Sl.alloc ?_ _ | with_reducible refine Sl.drew ?_ | exact s2))).mono ?_); rintro _ _ ⟨a4, c4, rfl, ⟨e4, rfl⟩, s4⟩)
      | (go_at_call 39; (with_reducible refine (HE.out _ _ _ (by repeat (first | with_reducible exact hT | with_reducible refine TabW.over ?_ _ | with_reducible refine TabW.alloc ?_ _ | with_reducible refine TabW.drew ?_ | ((with_reducible refine TabW.setCell ?_ ?_ _); rotate_left; (first | (focus (simp; done)) | (focus (simp; omega)))) | ((with_reducible refine TabW.chg ?_ _ ?_); rotate_left; (first | assumption | (focus (simp; done)) | (focus (simp; omega)))) | exact hT)) (by repeat (first | with_reducible exact s4 | with_reducible refine Sl.over ?_ _ | with_reducible refine Sl.alloc ?_ _ | with_reducible refine Sl.drew ?_ | exact s4))).mono ?_); rintro _ _ ⟨a6, c6, rfl, ⟨e6, rfl⟩, s6⟩)
      | (go_at_call 42; (with_reducible refine (HC.out _ _ _ (by repeat (first | with_reducible exact s4 | with_reducible refine Sl.over ?_ _ | with_reducible refine Sl.alloc ?_ _ | with_reducible refine Sl.drew ?_ | exact s4))).mono ?_); rintro _ _ ⟨a7, c7, rfl, ⟨e7, rfl⟩, o7⟩; have s7 := (Own.slice' bcs_len o7).2; clear o7)
      | (go_at_call 36; (with_reducible refine (HA'.out _ _ _ (by repeat (first | with_reducible exact hT | with_reducible refine TabW.over ?_ _ | with_reducible refine TabW.alloc ?_ _ | with_reducible refine TabW.drew ?_ | ((with_reducible refine TabW.setCell ?_ ?_ _); rotate_left; (first | (focus (simp; done)) | (focus (simp; omega)))) | ((with_reducible refine TabW.chg ?_ _ ?_); rotate_left; (first | assumption | (focus (simp; done)) | (focus (simp; omega)))) | exact hT)) (by repeat (first | with_reducible exact s7 | with_reducible refine Sl.over ?_ _ | with_reducible refine Sl.alloc ?_ _ | with_reducible refine Sl.drew ?_ | exact s7))).mono ?_); rintro _ _ ⟨a8, c8, rfl, ⟨e8, rfl⟩, s8⟩))
    refine gen_w ?_
    intro W0 hW0
    have O0 : Hid (∃ e, W0 = over w e) := hid (by rw [hW0]; exact (by (try unfold Ov); repeat (first | with_reducible exact ex_over | with_reducible exact over_self _ | with_reducible refine ex_undrew ?_ | with_reducible refine ex_into ?_ _ | with_reducible refine ex_alloc ?_ _ | with_reducible refine ex_drew ?_ | ((with_reducible refine ex_setCell ?_ ?_ _); rotate_left; (first | omega | (focus (simp; done)) | (focus (simp; omega)))) | ((with_reducible refine ex_chg ?_ _ ?_); rotate_left; (first | assumption | (exact Hid.out (by assumption)))) | exact ex_over)))
    have S2 : Hid (SlM W0 a2 c2 XS) := hid (by rw [hW0]; exact (by repeat (first | with_reducible exact s2 | with_reducible refine Sl.over ?_ _ | with_reducible refine Sl.alloc ?_ _ | with_reducible refine Sl.drew ?_ | exact s2)))
    have S6 : Hid (SlI W0 a6 c6 US) := hid (by rw [hW0]; exact (by repeat (first | with_reducible exact s6 | with_reducible refine Sl.over ?_ _ | with_reducible refine Sl.alloc ?_ _ | with_reducible refine Sl.drew ?_ | exact s6)))
    have S8 : Hid (SlM W0 a8 c8 MS) := hid (by rw [hW0]; exact (by repeat (first | with_reducible exact s8 | with_reducible refine Sl.over ?_ _ | with_reducible refine Sl.alloc ?_ _ | with_reducible refine Sl.drew ?_ | exact s8)))
    clear hW0 s2 s4 s6 s7 s8
    have hu1 : US.length ≤ 30 := by have := HUL.out; omega
    go_loopw [17, 18] (fun f j wr => ∃ (k : Nat), k ≤ XS.length ∧ j = .int .i64 (k : Nat) ∧ f = .int .i64 (fnd XS n k) ∧ Ov W0 wr) (fun _ j _ => XS.length - (intOf j).toNat)
    case atStart => exact ⟨0, Nat.zero_le _, rfl, by rw [HF0.out], (by (try unfold Ov); repeat (first | with_reducible exact ex_over | with_reducible exact over_self _ | with_reducible refine ex_undrew ?_ | with_reducible refine ex_into ?_ _ | with_reducible refine ex_alloc ?_ _ | with_reducible refine ex_drew ?_ | ((with_reducible refine ex_setCell ?_ ?_ _); rotate_left; (first | omega | (focus (simp; done)) | (focus (simp; omega)))) | ((with_reducible refine ex_chg ?_ _ ?_); rotate_left; (first | assumption | (exact Hid.out (by assumption)))) | exact ex_over))⟩
    case round =>
      obtain ⟨k, hk, rfl, rfl, ⟨e0, rfl⟩⟩ := hrel
      by_cases hlt : k < XS.length
      · have hlu : k < US.length := by have := HUL.out; omega
        obtain ⟨b7, o7, rfl, hb7, k0⟩ := SlI.at_ S6.out hlu
        have hv := HUA.out k hlu
        by_cases he : (bitsC En.zero (XS.take (k + 1))).length = n
        · have HN : Hid (fnd XS n (k + 1) = ((k + 1 : Nat) : Int)) := hid (by show (if _ then _ else _) = _; rw [if_pos he])
          rw [hv, he] at k0
          clear hv he
          go_wp2_with fail
          go_roundw
          case rel => exact ⟨k + 1, by omega, by go_num, by rw [HN.out]; go_num, (by (try unfold Ov); repeat (first | with_reducible exact ex_over | with_reducible exact over_self _ | with_reducible refine ex_undrew ?_ | with_reducible refine ex_into ?_ _ | with_reducible refine ex_alloc ?_ _ | with_reducible refine ex_drew ?_ | ((with_reducible refine ex_setCell ?_ ?_ _); rotate_left; (first | omega | (focus (simp; done)) | (focus (simp; omega)))) | ((with_reducible refine ex_chg ?_ _ ?_); rotate_left; (first | assumption | (exact Hid.out (by assumption)))) | exact ex_over))⟩
          case measure => (simp [intOf]; try omega)
        · have HN : Hid (fnd XS n (k + 1) = fnd XS n k) := hid (by show (if _ then _ else _) = _; rw [if_neg he])
          rw [hv] at k0
          obtain ⟨v, hve⟩ : ∃ v, (bitsC En.zero (XS.take (k + 1))).length = v := ⟨_, rfl⟩
          rw [hve] at k0 he
          have hvn : ((v : Int) == (n : Int)) = false := by rw [beq_eq_false_iff_ne]; omega
          clear hv he hve
          go_wp2_with fail
          go_roundw
          case rel => exact ⟨k + 1, by omega, by go_num, by rw [HN.out], (by (try unfold Ov); repeat (first | with_reducible exact ex_over | with_reducible exact over_self _ | with_reducible refine ex_undrew ?_ | with_reducible refine ex_into ?_ _ | with_reducible refine ex_alloc ?_ _ | with_reducible refine ex_drew ?_ | ((with_reducible refine ex_setCell ?_ ?_ _); rotate_left; (first | omega | (focus (simp; done)) | (focus (simp; omega)))) | ((with_reducible refine ex_chg ?_ _ ?_); rotate_left; (first | assumption | (exact Hid.out (by assumption)))) | exact ex_over))⟩
          case measure => (simp [intOf]; try omega)
      · obtain rfl : k = XS.length := by omega
        have hlu : ¬ XS.length < US.length := by have := HUL.out; omega
        rw [HF.out]
        go_wp2_with (fail)
        go_ret
        exact ⟨(by (try unfold Ov); repeat (first | with_reducible exact O0.out | with_reducible exact O0.out | with_reducible refine ex_undrew ?_ | with_reducible refine ex_into ?_ _ | with_reducible refine ex_alloc ?_ _ | with_reducible refine ex_drew ?_ | ((with_reducible refine ex_setCell ?_ ?_ _); rotate_left; (first | omega | (focus (simp; done)) | (focus (simp; omega)))) | ((with_reducible refine ex_chg ?_ _ ?_); rotate_left; (first | assumption | (exact Hid.out (by assumption)))) | exact ex_over)), rfl⟩
end Go.Proofs.YthljlajdkdgieaaDoor
