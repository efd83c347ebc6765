/- Walks: the writer of bits: number, begin; Put. -/
import Derived.Test.YthljlajdkdgieaaDoorBitL
namespace Go.Proofs.YthljlajdkdgieaaDoor
set_option linter.unusedVariables false
set_option linter.unusedSimpArgs false
open Go.RowKit

theorem WrAt.same {base : Nat} {w : World} {p : Nat} {l l' : List Bool} {F : List Nat} (h : WrAt base w p l F) (e : l = l') : WrAt base w p l' F := e ▸ h
theorem lay_any {base : Nat} {w : World} {p : Nat} {l : List Bool} {F : List Nat} (h : WrAt base w p l F) (hl : l.length ≤ 1000000) (b n : Nat) (hb : b < 256) (hn : n ≤ 8) (hbw : base ≤ w.heap.size) :
    Calls Tryd.prog 70 #[.pointer (some ⟨p, 0, none⟩), .int .u8 (b : Nat), .int .i64 (n : Nat)] w (WrDid base w p F (l ++ hi b n)) := by
  by_cases hk : l.length % 8 = 0
  · by_cases h0 : 0 < n
    · exact lay_0 h hl b n hb hn hbw hk h0
    · obtain rfl : n = 0 := by omega
      rw [hi_zero, List.append_nil]
      exact lay_n h hl b hb hbw hk
  · by_cases h8 : n ≤ 8 - l.length % 8
    · exact lay_1 h hl b n hb hn hbw hk h8
    · exact lay_2 h hl b n hb hn hbw hk (by omega)

theorem lay_any8 {base : Nat} {w : World} {p : Nat} {l : List Bool} {F : List Nat} (h : WrAt base w p l F) (hl : l.length ≤ 1000000) (b : Nat) (hb : b < 256) (hbw : base ≤ w.heap.size) :
    Calls Tryd.prog 70 #[.pointer (some ⟨p, 0, none⟩), .int .u8 (b : Nat), .int .i64 8] w (WrDid base w p F (l ++ hi b 8)) := lay_any h hl b 8 hb (Nat.le_refl _) hbw

theorem num_more {v k n W : Nat} (hn : n ≤ 8) (hk : n ≤ k) (hW : k ≤ W) : num (v >>> k) (W - k) ++ hi (v >>> (k - n) <<< (8 - n) % 256) n = num (v >>> (k - n)) (W - (k - n)) := by
  have h1 := num_split (v >>> (k - n)) (W - k) n
  have h2 := num_split v n (k - n)
  rw [show n + (k - n) = k by omega] at h2
  rw [num_hi hk hn, h2, List.take_left' (num_length _ _), show W - (k - n) = W - k + n by omega, h1, ← Nat.shiftRight_add, show k - n + n = k by omega]

def NumRel (base : Nat) (F : List Nat) (w : World) (p : Nat) (l : List Bool) (wr : World) : Prop := ∃ m F', wr = chg F w m ∧ WrAt base wr p l F' ∧ ∀ i ∈ F', i ∈ F ∨ w.heap.size ≤ i
theorem NumRel.step {base : Nat} {F : List Nat} {w : World} {p : Nat} {l' : List Bool} {wr w' : World} {F1 F2 : List Nat} (hF1 : ∀ i ∈ F1, i ∈ F ∨ w.heap.size ≤ i) (hc : Chg F w wr) {m : Mut} (hw' : w' = chg F1 wr m) (h : WrAt base w' p l' F2) (hF2 : ∀ k ∈ F2, k ∈ F1 ∨ wr.heap.size ≤ k) : NumRel base F w p l' w' := by
  have hc2 : Chg F w w' := by rw [hw']; exact hc.in_ m hF1
  obtain ⟨m', hm'⟩ := chg_of hc2
  refine ⟨m', F2, hm', h, fun i hi => ?_⟩
  rcases hF2 i hi with h1 | h1
  · exact hF1 i h1
  · have := hc.size; omega

theorem num_e1 (v k : Nat) : IntKind.u64.wrap ((v : Int) * 2 ^ (8 - k)) % 256 = ((v >>> (k - k) <<< (8 - k) % 256 : Nat) : Int) := by
  rw [IntKind.wrap_u64, Nat.sub_self, Nat.shiftRight_zero, ← cast_shl8]
  exact Int.emod_emod_of_dvd _ (by decide)
theorem num_e2 (v k : Nat) : IntKind.u64.wrap ((v : Int) / (2 : Int) ^ (k - 8)) % 256 = ((v >>> (k - 8) <<< (8 - 8) % 256 : Nat) : Int) := by
  rw [IntKind.wrap_u64, Nat.sub_self, Nat.shiftLeft_zero, cast_shr, Int.emod_emod_of_dvd _ (by decide)]; rfl

set_option maxRecDepth 100000 in
set_option maxHeartbeats 2000000 in
theorem number_any {base : Nat} {w : World} {p : Nat} {l : List Bool} {F : List Nat} (h : WrAt base w p l F) (hl : l.length ≤ 900000) (v W : Nat) (hv : v < 18446744073709551616) (hW : W ≤ 64) (hbw : base ≤ w.heap.size) :
    Calls Tryd.prog 74 #[.pointer (some ⟨p, 0, none⟩), .int .u64 (v : Nat), .int .i64 (W : Nat)] w (WrDid base w p F (l ++ num v W)) := by
  have H := hid h
  clear h
  go_enter Tryd.func74, Tryd.ntmps74
  go_wp2
  go_loopw [2] (fun i wr => ∃ (k : Nat), k ≤ W ∧ i = .int .i64 k ∧ NumRel base F w p (l ++ num (v >>> k) (W - k)) wr) (fun i _ => (intOf i).toNat)
  case atStart =>
    obtain ⟨m, hm⟩ := chg_of (Chg.refl F w)
    exact ⟨W, Nat.le_refl _, rfl, m, F, hm, H.out.same (by rw [Nat.sub_self, num_zero, List.append_nil]), fun i hi => .inl hi⟩
  case round =>
    obtain ⟨k, hk, rfl, m, F', rfl, hw, hF⟩ := hrel
    have HF := hid hF
    clear hF
    by_cases hlt : 0 < k
    · by_cases h8 : k ≤ 8
      · obtain ⟨Y, hY⟩ : ∃ Y, Y = v >>> (k - k) <<< (8 - k) % 256 := ⟨_, rfl⟩
        have hS : IntKind.u64.wrap ((v : Int) * 2 ^ (8 - k)) % 256 = (Y : Int) := by rw [hY]; exact num_e1 v k
        have HC := hid (lay_any hw (by rw [List.length_append, num_length]; omega) Y k (by omega) (by omega) (by simp; omega))
        have HY := hid hY
        clear hY hw
        go_wp2_with (go_at_call 70; (with_reducible refine (HC.out).mono ?_); rintro _ _ ⟨rfl, m2, F2, rfl, hw2, hF2⟩)
        go_roundw
        case rel =>
          have hw3 := hw2.same (l' := l ++ num (v >>> (k - k)) (W - (k - k))) (by rw [HY.out, List.append_assoc, num_more (by omega) (Nat.le_refl _) hk])
          exact ⟨k - k, by omega, by go_num, NumRel.step HF.out (chg_chg _ _ _) rfl hw3 hF2⟩
        case measure => simp [intOf]; omega
      · have h9 : 8 < k := by omega
        obtain ⟨Y, hY⟩ : ∃ Y, Y = v >>> (k - 8) <<< (8 - 8) % 256 := ⟨_, rfl⟩
        have hS : IntKind.u64.wrap ((v : Int) / (2 : Int) ^ (k - 8)) % 256 = (Y : Int) := by rw [hY]; exact num_e2 v k
        have HC := hid (lay_any8 hw (by rw [List.length_append, num_length]; omega) Y (by omega) (by simp; omega))
        have HY := hid hY
        clear hY hw
        go_wp2_with (go_at_call 70; (with_reducible refine (HC.out).mono ?_); rintro _ _ ⟨rfl, m2, F2, rfl, hw2, hF2⟩)
        go_roundw
        case rel =>
          have hw3 := hw2.same (l' := l ++ num (v >>> (k - 8)) (W - (k - 8))) (by rw [HY.out, List.append_assoc, num_more (by omega) (by omega) hk])
          exact ⟨k - 8, by omega, by go_num, NumRel.step HF.out (chg_chg _ _ _) rfl hw3 hF2⟩
        case measure => simp [intOf]; omega
    · obtain rfl : k = 0 := by omega
      go_wp2
      go_end0
      exact ⟨rfl, m, F', rfl, hw.same (by rw [Nat.shiftRight_zero, Nat.sub_zero]), HF.out⟩
end Go.Proofs.YthljlajdkdgieaaDoor
