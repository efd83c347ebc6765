import Derived.Test.YtnihngljmmbenaaGreatDoorGB
import Derived.Test.YtnihngljmmbenaaGreatDoorGA
namespace Go.Proofs.YtnihngljmmbenaaGreatDoor
set_option linter.unusedVariables false
set_option linter.unusedSimpArgs false
open Go.RowKit
attribute [local go_sem] over_drew chg_drew

theorem cut_more {l : List Bool} {i k m : Nat} (h : i + k + m ≤ l.length) (hm : m ≤ 8) : (l.drop i).take k ++ hi (oct fun j => l.getD (i + k + j) false) m = (l.drop i).take (k + m) := by
  rw [oct_hi h hm, ← List.drop_drop, List.take_add]
theorem HasWr.on {w1 w : World} {p : Nat} {l : List Bool} (h : HasWr w1 p l w) (x : World) : HasWr w1 p l (over w x) := by
  obtain ⟨e, F, rfl, hw⟩ := h
  obtain ⟨e', he⟩ : ∃ e', over (over w1 e) x = over w1 e' := ovA
  exact ⟨e', F, he, hw.chg ((Chg.refl [] _).on x) (fun _ _ hm => by cases hm)⟩
set_option maxRecDepth 100000 in
set_option maxHeartbeats 2000000 in
theorem bcut_any (l : List Bool) (hl : l.length ≤ 900000) (i n : Nat) (hin : i + n ≤ l.length) (a : Option Addr) (cap : Nat) (w : World) (hs : SlB w a cap (pack l)) :
    Calls Tryz.prog 49 #[bv a (pack l).length cap l.length, .int .i64 (i : Nat), .int .i64 ((i + n : Nat) : Int)] w (PutPost w ((l.drop i).take n)) := by
  have HS := hid (fun W hW => sound_any (pack l) pack_lt (pack_len_le (by omega)) l.length (by omega) a cap W hW)
  rw [sound_pack] at HS
  have hA := hid (fun k hk W hW => at_any l k hk (by omega) a cap W hW)
  obtain ⟨E, hE⟩ : ∃ E, i + n = E := ⟨_, rfl⟩
  rw [hE]
  have hEl : E ≤ l.length := by omega
  have hiE : i ≤ E := by omega
  have HE := hid hE
  clear hE hin
  have k1 : ¬ (i : Int) < 0 := by omega
  have k2 : ¬ (E : Int) < (i : Int) := by omega
  have k3 : ¬ (l.length : Int) < (E : Int) := by omega
  have d1 : decide ((i : Int) < 0) = false := decide_eq_false k1
  have d2 : decide ((E : Int) < (i : Int)) = false := decide_eq_false k2
  have d3 : decide ((l.length : Int) < (E : Int)) = false := decide_eq_false k3
  have d4 : decide (l.length < E) = false := decide_eq_false (by omega)
  have d5 : decide (E < i) = false := decide_eq_false (by omega)
  go_enter Tryz.func49, Tryz.ntmps49
  go_wp2_with (go_at_call 87; (with_reducible refine (HS.out _ (by exact slA hs)).mono ?_); rintro _ _ ⟨⟨e1, rfl⟩, rfl⟩)
  refine gen_w ?_
  intro W0 hW0
  obtain ⟨W1, hW1⟩ : ∃ W1, W1 = over ((w.alloc (.cells #[.slice a (pack l).length cap, .int .i64 l.length] 46)).alloc (.cells #[.slice none 0 0, .int .i64 0] 46)) e1 := ⟨_, rfl⟩
  rw [← hW1] at hW0
  have O1 : Hid (∃ e, W1 = over w e) := hid (by rw [hW1]; exact ovA)
  have B3 : Hid (Blk W1 w.heap.size [.slice a (pack l).length cap, .int .i64 l.length] 46) := hid (by rw [hW1]; exact Blk.on (Blk.alloc (Blk.new' (by simp)) _) _)
  have B6 : Hid (Blk W1 (w.heap.size + 1) [.slice none 0 0, .int .i64 0] 46) := hid (by rw [hW1]; exact Blk.on (Blk.new' (by simp)) _)
  have S1 : Hid (SlB W1 a cap (pack l)) := hid (by rw [hW1]; exact (by exact slA hs))
  have hp : w.heap.size + 1 + 1 + e1.heap.size = W1.heap.size := by rw [hW1]; simp
  rw [hp]
  have HW0 : Hid (HasWr W1 W1.heap.size [] W0) := hid (by
    obtain ⟨e0, he0⟩ : ∃ e, W0 = over W1 e := by rw [hW0]; exact ovA
    exact ⟨e0, _, he0, .slice none 0 0, by rw [hW0]; exact Blk.new' rfl, Own.nil _, Nat.le_refl _, by simp [Value.ownBlock], rfl⟩)
  have hp6 : w.heap.size + 1 < W1.heap.size := by omega
  clear hW0 hW1 hp k1 k2 k3 HS hs
  obtain ⟨p, hpp⟩ : ∃ p, W1.heap.size = p := ⟨_, rfl⟩
  rw [hpp] at HW0 ⊢
  have HPP := hid hpp
  clear hpp
  go_loopw [1] (fun f wr => ∃ (k : Nat), k ≤ n ∧ f = .int .i64 ((i + k : Nat) : Int) ∧ Hid (HasWr W1 p ((l.drop i).take k) wr)) (fun f _ => E - (intOf f).toNat)
  case atStart => exact ⟨0, Nat.zero_le _, rfl, HW0⟩
  case round =>
    obtain ⟨k, hk, rfl, HR⟩ := hrel
    clear HW0
    have hEn := HE.out
    by_cases hlt : k < n
    · obtain ⟨I, hI⟩ : ∃ I, i + k = I := ⟨_, rfl⟩
      have hIl : I < l.length := by omega
      have hIE : I < E := by omega
      have hlL : ((l.drop i).take k).length ≤ 900000 := by rw [List.length_take, List.length_drop]; omega
      have hA' := hA I hIl
      have b3 := B3.out.cell 0 rfl
      have b4 := B3.out.cell 1 rfl
      have b5 := B3.out.lt
      by_cases h8 : E - I ≤ 8
      · have hcm := cut_more (l := l) (i := i) (k := k) (m := E - I) (by omega) h8
        obtain ⟨m, hm⟩ : ∃ m, E - I = m := ⟨_, rfl⟩
        rw [hm] at hcm h8
        have hsub : (E : Int) - (I : Int) = (m : Int) := by omega
        have hm0 : (m : Int) ≤ 8 := by omega
        have HM := hid hm
        clear hm
        rw [hI] at hcm ⊢
        obtain ⟨o, ho⟩ : ∃ o, (oct fun j => l.getD (I + j) false) = o := ⟨_, rfl⟩
        have ho8 : o < 256 := by rw [← ho]; exact oct_lt _
        rw [ho] at hcm hA'
        have HCM := hid hcm
        have HI := hid hI
        have HRo := hid (fun x => HasWr.on HR.out x)
        obtain ⟨e5, F5, rfl, hwr⟩ := HR.out
        clear hcm ho hI hEn hwr HR
        have HL := hid (fun W h => lay_ov (w1 := W1) (w := W) (p := p) (l := (l.drop i).take k) h (by omega) o m ho8 h8)
        rw [HCM.out] at HL
        go_wp2_with (first | (go_at_call 89; (with_reducible refine (hA' _ (by exact slA S1.out)).mono ?_); rintro _ _ ⟨⟨e2, rfl⟩, rfl⟩) | (go_at_call 88; (with_reducible refine (HL.out _ (HRo.out _)).mono ?_); rintro _ _ ⟨rfl, hw4⟩; have HW4 := hid hw4; clear hw4))
        go_roundw
        case rel => exact ⟨k + m, by have := HM.out; have := HI.out; have := HE.out; omega, by have := HI.out; go_num, HW4⟩
        case measure => have := HM.out; simp [intOf]; omega
      · have hcm := cut_more (l := l) (i := i) (k := k) (m := 8) (by omega) (Nat.le_refl _)
        obtain ⟨m, hm⟩ : ∃ m, E - I = m := ⟨_, rfl⟩
        have hsub : (E : Int) - (I : Int) = (m : Int) := by omega
        have hm0 : ¬ (m : Int) ≤ 8 := by omega
        have HM := hid hm
        clear hm
        rw [hI] at hcm ⊢
        obtain ⟨o, ho⟩ : ∃ o, (oct fun j => l.getD (I + j) false) = o := ⟨_, rfl⟩
        have ho8 : o < 256 := by rw [← ho]; exact oct_lt _
        rw [ho] at hcm hA'
        have HCM := hid hcm
        have HI := hid hI
        have HRo := hid (fun x => HasWr.on HR.out x)
        obtain ⟨e5, F5, rfl, hwr⟩ := HR.out
        clear hcm ho hI hEn hwr HR
        have HL : Hid (∀ W, HasWr W1 p ((l.drop i).take k) W → Calls Tryz.prog 88 #[.pointer (some ⟨p, 0, none⟩), .int .u8 (o : Nat), .int .i64 8] W (WrOv W1 p ((l.drop i).take (k + 8)))) := hid (fun W h => by rw [← HCM.out]; exact lay_ov (w1 := W1) (w := W) (p := p) (l := (l.drop i).take k) h (by omega) o 8 ho8 (Nat.le_refl _))
        go_wp2_with (first | (go_at_call 89; (with_reducible refine (hA' _ (by exact slA S1.out)).mono ?_); rintro _ _ ⟨⟨e2, rfl⟩, rfl⟩) | (go_at_call 88; (with_reducible refine (HL.out _ (HRo.out _)).mono ?_); rintro _ _ ⟨rfl, hw4⟩; have HW4 := hid hw4; clear hw4))
        go_roundw
        case rel => exact ⟨k + 8, by have := HM.out; have := HI.out; have := HE.out; omega, by have := HI.out; go_num, HW4⟩
        case measure => have := HM.out; simp [intOf]; omega
    · obtain rfl : k = n := by omega
      obtain ⟨L, hL⟩ : ∃ L, (l.drop i).take k = L := ⟨_, rfl⟩
      rw [hL] at HR ⊢
      have HLL := hid hL
      clear hL
      obtain ⟨e5, a5, c5, rfl, hp1, hp2, q0, q1, ho⟩ := HR.out.open_
      have g60 := B6.out.cell 0 rfl
      have g61 := B6.out.cell 1 rfl
      have f60 := B6.out.free 0
      have f61 := B6.out.free 1
      rw [hEn]
      go_wp2_with fail
      (try simp only [Exit.inBlock, Exit.then])
      refine bodyPost_ret (v := ?rv61) ?rh61 rfl ?rp61
      case rh61 => (simp only [results, show Tryz.f49.results = #[.cell 6 46, .tmp 7] from rfl]; go_simp; rfl)
      rw [HLL.out]
      exact ⟨a5, c5, rfl, (ovB O1.out), Own.mono (Own.over_swap ho (by simp) (Nat.le_refl _)) (by omega)⟩
end Go.Proofs.YtnihngljmmbenaaGreatDoor
