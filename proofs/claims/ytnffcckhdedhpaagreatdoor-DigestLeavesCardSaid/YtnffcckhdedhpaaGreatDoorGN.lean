import Derived.Test.YtnffcckhdedhpaaGreatDoorGB
import Derived.Test.YtnffcckhdedhpaaGreatDoorGA
namespace Go.Proofs.YtnffcckhdedhpaaGreatDoor
set_option linter.unusedVariables false
set_option linter.unusedSimpArgs false
set_option maxRecDepth 100000
set_option maxHeartbeats 2000000
section
open Go.RowKit
def RbOwn (w : World) (L : List Bool) (en : Ending) (w' : World) : Prop :=
 ∃ a c, en = .returned (.tuple #[bv a (pack L).length c L.length, .int .i64 0]) ∧ (∃ e, w' = over w e) ∧ OwnB w.heap.size w' (.slice a (pack L).length c) (pack L)
end
section
open Go.RowKit
theorem cut_snoc {l : List Bool} {i k : Nat} (hk : i + k < l.length) : (l.drop i).take k ++ [l[i + k]] = (l.drop i).take (k + 1) := by
 rw [List.take_add_one, List.getElem?_drop, List.getElem?_eq_getElem hk]; rfl
end
section
open Go.RowKit
theorem rcut_own (l : List Bool) (hl : l.length ≤ 900000) (i n : Nat) (hin : i + n ≤ l.length) (a : Option Addr) (cap : Nat) (w : World) (hs : SlB w a cap (pack l)) :
    Calls Tryz.prog 89 #[bv a (pack l).length cap l.length, .int .i64 (i : Nat), .int .i64 ((i + n : Nat) : Int)] w (RbOwn w ((l.drop i).take n)) := by
  have HS := hid (fun W hW => rsound_any (pack l) pack_lt (pkl (by omega)) l.length (by omega) a cap W hW); rw [spk] at HS; have hR := hid (fun k hk W hW => rbit_l l k hk (by omega) l.length a cap W hW); obtain ⟨L, hL⟩ : ∃ L, (l.drop i).take n = L := ⟨_, rfl⟩; have hLl : L.length ≤ 1000000 := by rw [← hL, List.length_take, List.length_drop]; omega
  have HO := hid (fun a cap W hW => rof_any L hLl a cap W hW); rw [hL]; have HL := hid hL; clear hL
  go_enter Tryz.func89, Tryz.ntmps89; go_wp2_with (go_at_call 63; (with_reducible refine (HS.out _ (by exact slA hs)).mono ?_); rintro _ _ ⟨⟨e1, rfl⟩, rfl⟩)
  go_loopw [9, 10] (fun o f wr => ∃ (k : Nat), k ≤ n ∧ f = .int .i64 ((i + k : Nat) : Int) ∧ Ov (over ((w.alloc (.cells #[.slice a (pack l).length cap, .int .i64 l.length] 49)).alloc (.cells #[.slice none 0 0, .int .i64 0] 49)) e1) wr ∧ OwnT (over ((w.alloc (.cells #[.slice a (pack l).length cap, .int .i64 l.length] 49)).alloc (.cells #[.slice none 0 0, .int .i64 0] 49)) e1).heap.size wr o ((l.drop i).take k)) (fun _ f _ => i + n - (intOf f).toNat)
  case atStart =>
   exact ⟨0, Nat.zero_le _, rfl, ovA, Own.nil _⟩
  case round =>
   obtain ⟨k, hk, rfl, ⟨e, rfl⟩, hown⟩ := hrel; by_cases hlt : k < n
   · have hik : i + k < l.length := by omega
     have htk : ((l.drop i).take k).length ≤ 900000 := by rw [List.length_take, List.length_drop]; omega
     have HBk := hid (fun W hW => hR.out (i + k) hik W hW); have hsn := hid (cut_snoc hik); obtain ⟨B, hB⟩ : ∃ B, l[i + k] = B := ⟨_, rfl⟩; rw [hB] at HBk hsn; obtain ⟨J, hJ⟩ : ∃ J, i + k = J := ⟨_, rfl⟩; rw [hJ] at HBk ⊢; have hJl : J < i + n := by omega
     have hJm : J ≤ 900000 := by omega
     obtain ⟨K, hK⟩ : ∃ K, (l.drop i).take k = K := ⟨_, rfl⟩; rw [hK] at hown htk hsn; clear hB hK; go_wp2_with (first | (go_at_call 94; (with_reducible refine (HBk.out _ (by exact slA hs)).mono ?_); rintro _ _ ⟨⟨e2, rfl⟩, rfl⟩) | (at_builtin; refine wpList_append byte_elem tcs_len tcs_one rfl (.tmp 36) (.tmp 40) rfl (B := over ((w.alloc (.cells #[.slice a (pack l).length cap, .int .i64 l.length] 49)).alloc (.cells #[.slice none 0 0, .int .i64 0] 49)) e1) (xs := [B]) hown rfl rfl ovA ovA (by exact asA) (by exact asA) (by (repeat with_reducible refine Sl.drew ?_); exact Sl.one_new (y := B) (by simp; try omega)) (by exact lnA) (by exact lnB) ?_; intro v' x' hown' _ _))
     go_roundw
     case rel =>
      rw [hsn.out] at hown'; exact ⟨k + 1, by omega, by go_num, ovA, hown'⟩
     case measure => simp [intOf]; omega
   · obtain rfl : k = n := by omega
     rw [HL.out] at hown; obtain ⟨a5, c5, rfl, s5⟩ := Own.slice tcs_len hown; go_wp2_with (go_at_call 65; (with_reducible refine (HO.out _ _ _ (by exact slA s5)).mono ?_); rintro _ _ ⟨⟨e6, rfl⟩, v6, rfl, a6, c6, rfl, ho6⟩)
     (try simp only [Exit.inBlock, Exit.then])
     refine bodyPost_ret (v := ?rv71) ?rh71 rfl ?rp71
     case rh71 => (simp only [results, show Tryz.f89.results = #[.cell 6 49, .tmp 7] from rfl]; go_simp; rfl)
     refine ⟨a6, c6, rfl, ovA, ?_⟩
     (repeat with_reducible refine Own.drew ?_)
     exact Own.mono (Own.ovw ho6 (by exact szA) (by exact szA)) (by exact szA)
end
end Go.Proofs.YtnffcckhdedhpaaGreatDoor
