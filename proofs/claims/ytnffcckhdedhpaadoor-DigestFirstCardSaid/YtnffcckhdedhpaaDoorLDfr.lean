import Derived.Test.YtnffcckhdedhpaaDoorPD
namespace Go.Proofs.YtnffcckhdedhpaaDoor
set_option linter.unusedVariables false
set_option linter.unusedSimpArgs false
open Go.RowKit
attribute [local go_sem] over_drew chg_drew

theorem apL_len (a b : List Lf) : (apL a b).length = (idsU a b).length := by unfold apL; simp
theorem apL_get (a b : List Lf) {i : Nat} (h : i < (apL a b).length) (h3 : i < (idsU a b).length) : (apL a b)[i] = ⟨(idsU a b)[i], (minU a b (a ++ b) (idsU a b)[i]).getD 0, cntU a (idsU a b)[i] ((minU a b (a ++ b) (idsU a b)[i]).getD 0), 0⟩ := by
  simp [apL]
theorem apL_at (a b : List Lf) {i : Nat} (h : i < (apL a b).length) (h2 : i < (apL b a).length) : (apL a b)[i].s = (apL b a)[i].s ∧ (apL a b)[i].c = (apL b a)[i].c ∧ (apL a b)[i].m = 0 := by
  have h3 : i < (idsU a b).length := by rw [← apL_len]; exact h
  have h4 : i < (idsU b a).length := by rw [← apL_len]; exact h2
  have hi : (idsU a b)[i] = (idsU b a)[i] := List.getElem_of_eq (idsU_comm a b) h3
  rw [apL_get a b h h3, apL_get b a h2 h4]
  simp only [hi, minU_comm a b, and_self]
theorem apL_up (a b : List Lf) {i j : Nat} (hij : i < j) (h : j < (apL a b).length) : (apL a b)[i].s < (apL a b)[j].s := by
  have h3 : j < (idsU a b).length := by rw [← apL_len]; exact h
  rw [apL_get a b (by omega) (by omega), apL_get a b h h3]
  exact List.pairwise_iff_getElem.1 (idsU_sort a b) i j (by omega) h3 hij
theorem idsU_len (a b : List Lf) : (idsU a b).length ≤ a.length + b.length := by
  unfold idsU
  rw [srtN_len]
  refine Nat.le_trans (List.length_filter_le _ _) ?_
  have h : (((a ++ b).map (·.s)).eraseDups).length ≤ ((a ++ b).map (·.s)).length := by
    have : ∀ (n : Nat) (l : List Nat), l.length ≤ n → l.eraseDups.length ≤ l.length := by
      intro n
      induction n with
      | zero => intro l h; obtain rfl := List.eq_nil_of_length_eq_zero (Nat.le_zero.1 h); simp
      | succ n ih =>
        intro l h
        cases l with
        | nil => simp
        | cons a l =>
          rw [List.eraseDups_cons]
          have h1 := List.length_filter_le (fun b => !b == a) l
          simp only [List.length_cons] at h ⊢
          have := ih (l.filter fun b => !b == a) (by omega)
          omega
    exact this _ _ (Nat.le_refl _)
  simpa using h
set_option maxRecDepth 100000 in
set_option maxHeartbeats 4000000 in
theorem digestFirst_any (x : List Lf) (wx : ∀ z ∈ x, z.wf) (a1 : Option Addr) (c1 : Nat) (y : List Lf) (wy : ∀ z ∈ y, z.wf) (a2 : Option Addr) (c2 : Nat) (w : World) (hT : TabW w) (s1 : SlL w a1 c1 x) (s2 : SlL w a2 c2 y) :
    Calls Tryd.prog 5 #[.slice a1 x.length c1, .slice a2 y.length c2] w (Ret w (.bool true)) := by
  have HKn := hid (fun W (hW : TabW W) => kn26_any W hW)
  have HA := hid (fun (h1 : x.length ≤ 12) (h2 : y.length ≤ 12) W (hW : ∃ e, W = over w e) => apart_any x y (by omega) (by omega) wx wy a1 a2 c1 c2 W (Sl.ov s1 hW) (Sl.ov s2 hW))
  have HB := hid (fun (h1 : x.length ≤ 12) (h2 : y.length ≤ 12) W (hW : ∃ e, W = over w e) => apart_any y x (by omega) (by omega) wy wx a2 a1 c2 c1 W (Sl.ov s2 hW) (Sl.ov s1 hW))
  have hlen : (apL x y).length = (apL y x).length := by rw [apL_len, apL_len, idsU_comm]
  have hlb : (apL x y).length ≤ x.length + y.length := by rw [apL_len]; exact idsU_len _ _
  obtain ⟨l, hl⟩ : ∃ l, apL x y = l := ⟨_, rfl⟩
  obtain ⟨m, hm⟩ : ∃ m, apL y x = m := ⟨_, rfl⟩
  rw [hl, hm] at hlen
  rw [hl] at hlb
  have HAT : Hid (∀ i (h : i < l.length) (h2 : i < m.length), l[i].s = m[i].s ∧ l[i].c = m[i].c ∧ l[i].m = 0) := hid (by subst hl; subst hm; intro i h h2; exact apL_at x y h h2)
  have HUP : Hid (∀ i j (hij : i < j) (h : j < l.length), (l[i]'(Nat.lt_trans hij h)).s < l[j].s) := hid (by subst hl; intro i j hij h; exact apL_up x y hij h)
  simp only [hl] at HA
  simp only [hm] at HB
  clear s1 s2 wx wy hl hm
  by_cases h1 : 12 < x.length
  · have hd : decide (12 < x.length) = true := decide_eq_true h1
    have hdi : decide ((12 : Int) < (x.length : Int)) = true := decide_eq_true (by omega)
    clear hlen hlb
    go_enter Tryd.func5, Tryd.ntmps5
    go_wp2_with (go_at_call 6; (with_reducible refine (HKn.out _ (by exact tabA hT)).mono ?_); rintro _ _ ⟨⟨e1, rfl⟩, rfl⟩)
    go_ret
    exact ⟨ovA, rfl⟩
  have hd : decide (12 < x.length) = false := decide_eq_false h1
  have hdi : decide ((12 : Int) < (x.length : Int)) = false := decide_eq_false (by omega)
  by_cases h2 : 12 < y.length
  · have hd2 : decide (12 < y.length) = true := decide_eq_true h2
    have hd2i : decide ((12 : Int) < (y.length : Int)) = true := decide_eq_true (by omega)
    clear hlen hlb
    go_enter Tryd.func5, Tryd.ntmps5
    go_wp2_with (go_at_call 6; (with_reducible refine (HKn.out _ (by exact tabA hT)).mono ?_); rintro _ _ ⟨⟨e1, rfl⟩, rfl⟩)
    go_ret
    exact ⟨ovA, rfl⟩
  have hd2 : decide (12 < y.length) = false := decide_eq_false h2
  have hd2i : decide ((12 : Int) < (y.length : Int)) = false := decide_eq_false (by omega)
  have HA2 := hid (HA.out (by omega) (by omega))
  have HB2 := hid (HB.out (by omega) (by omega))
  have hlb2 : l.length ≤ 24 := by omega
  obtain ⟨n, hn⟩ : ∃ n, l.length = n := ⟨_, rfl⟩
  have HN := hid hn
  have HM : Hid (m.length = n) := hid (by rw [← hlen, hn])
  rw [hn] at hlb2
  clear hlen hlb HA HB h1 h2 hn
  go_enter Tryd.func5, Tryd.ntmps5
  go_wp2_with (first
    | (go_at_call 6; (with_reducible refine (HKn.out _ (by exact tabA hT)).mono ?_); rintro _ _ ⟨⟨e1, rfl⟩, rfl⟩)
    | (go_at_call 12; (with_reducible refine (HA2.out _ ovA).mono ?_); rintro _ _ ⟨v2, rfl, ⟨e2, rfl⟩, o2⟩; obtain ⟨a2', c2', rfl, s2⟩ := Own.slice Lf.cs_len o2; rw [HN.out]; have S2 := hid s2; clear o2 s2 HA2)
    | (go_at_call 12; (with_reducible refine (HB2.out _ ovA).mono ?_); rintro _ _ ⟨v3, rfl, ⟨e3, rfl⟩, o3⟩; obtain ⟨a3', c3', rfl, s3⟩ := Own.slice Lf.cs_len o3; rw [HM.out]; have S3 := hid s3; clear o3 s3 HB2))
  refine gen_w ?_
  intro W1 hW1
  have O1 : Hid (∃ e, W1 = over w e) := hid (by rw [hW1]; exact ovA)
  have T2 : Hid (SlL W1 a2' c2' l) := hid (by rw [hW1]; exact (by exact slA S2.out))
  have T3 : Hid (SlL W1 a3' c3' m) := hid (by rw [hW1]; exact (by exact slA S3.out))
  clear hW1 S2 S3
  go_loopw [7] (fun i wr => ∃ k : Nat, k ≤ n ∧ i = .int .i64 (k : Nat) ∧ Ov W1 wr) (fun i _ => n - (intOf i).toNat)
  case atStart => exact ⟨0, Nat.zero_le _, rfl, ovA⟩
  case round =>
    obtain ⟨k, hk, rfl, hov⟩ := hrel
    by_cases hlt : k < n
    · have hkl : k < l.length := by rw [HN.out]; exact hlt
      have hkm : k < m.length := by rw [HM.out]; exact hlt
      obtain ⟨b2, f2, he2, hb2, x0, x1, x2, x3⟩ := SlL.at_ T2.out hkl
      obtain ⟨b3, f3, rfl, hb3, y0, y1, y2, y3⟩ := SlL.at_ T3.out hkm
      obtain ⟨g1, g2, g3⟩ := HAT.out k hkl hkm
      have hup : ∀ i, k = i + 1 → ∃ F0, W1.cell? ⟨b2, f2 + i * 4, none⟩ = some (.int .u32 (F0 : Nat)) ∧ F0 < l[k].s := fun i hi => by
        subst hi
        obtain ⟨ub2, uo2, hua2, _, v0, _⟩ := SlL.at_ T2.out (show i < l.length by omega)
        rw [he2] at hua2
        cases hua2
        exact ⟨_, v0, HUP.out i (i + 1) (by omega) hkl⟩
      subst he2
      rw [← g1] at y0
      rw [← g2] at y1
      rw [g3] at x3
      obtain ⟨p, hp⟩ : ∃ p, l[k].s = p := ⟨_, rfl⟩
      obtain ⟨q, hq⟩ : ∃ p, l[k].c = p := ⟨_, rfl⟩
      simp only [hp] at hup
      rw [hp] at x0 y0
      rw [hq] at x1 y1
      have hdl : decide (k < n) = true := decide_eq_true hlt
      obtain ⟨e9, rfl⟩ := hov
      clear g1 g2 g3 hp hq hkl hkm x2 y2 y3
      rcases Nat.eq_zero_or_pos k with h0 | h0
      · subst h0
        clear hup
        simp only [Nat.zero_mul, Nat.add_zero] at x0 x1 x3 y0 y1
        go_wp2
        refine wp_region_over (by kernel_rfl) (by kernel_rfl) ?_
        repeat (go_big_quiet_step ((fail)))
        refine wpQuiet_nil ?_
        intro _ hw'
        obtain ⟨nq, rfl⟩ := hw'
        go_wp2
        go_roundw
        case rel => exact ⟨1, by omega, by go_num, ovA⟩
        case measure => (simp [intOf]; try omega)
      · obtain ⟨i, rfl⟩ : ∃ i, k = i + 1 := ⟨k - 1, by omega⟩
        obtain ⟨F0, z0, hF⟩ := hup i rfl
        have hle : decide (p ≤ F0) = false := decide_eq_false (by omega)
        clear hup h0
        go_wp2
        refine wp_region_over (by kernel_rfl) (by kernel_rfl) ?_
        repeat (go_big_quiet_step ((fail)))
        refine wpQuiet_nil ?_
        intro _ hw'
        obtain ⟨nq, rfl⟩ := hw'
        go_wp2
        go_roundw
        case rel => exact ⟨i + 1 + 1, by omega, by go_num, ovA⟩
        case measure => (simp [intOf]; try omega)
    · have hdl : decide (k < n) = false := decide_eq_false hlt
      obtain ⟨e9, rfl⟩ := hov
      go_wp2
      go_ret
      exact ⟨(ovB O1.out), rfl⟩
end Go.Proofs.YtnffcckhdedhpaaDoor
