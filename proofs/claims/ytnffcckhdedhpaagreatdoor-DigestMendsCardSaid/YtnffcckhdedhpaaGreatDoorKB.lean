import Derived.Test.YtnffcckhdedhpaaGreatDoorHE
import Derived.Test.YtnffcckhdedhpaaGreatDoorHJ
namespace Go.Proofs.YtnffcckhdedhpaaGreatDoor
set_option linter.unusedVariables false
set_option linter.unusedSimpArgs false
set_option maxRecDepth 100000
set_option maxHeartbeats 4000000
section
open Go.RowKit
attribute [local go_sem] odr cdr
theorem SeAt.smp {base : Nat} {w : World} {x : Se} (h : SeAt base w x) {k : Nat} (hk : k < x.ps.length) : ∃ c, x.s.chunks[k]? = Option.some c ∧ ChkOk c ∧ x.ps[k].L = bitsC En.zero c ∧ PrtOk base w x.ps[k] := by
 obtain ⟨c, h1, h2⟩ := h.is_.L hk; refine ⟨c, h1, ?_, h2, h.pts _ (List.getElem_mem hk)⟩; have hm := List.mem_of_getElem? h1; unfold Sr.chunks at hm; rcases List.mem_append.1 hm with h3 | h3
 · exact (h.ok.cl c h3).2
 · simp at h3; subst h3; exact h.ok.op
theorem chunks_all (s : Sr) : s.chunks.flatten = s.all := by unfold Sr.chunks Sr.all; simp
theorem take_flat {l : List (List Sm)} {k : Nat} {c : List Sm} (h : l[k]? = Option.some c) : (l.take (k + 1)).flatten = (l.take k).flatten ++ c := by
 rw [List.take_add_one, h]; simp
theorem flat_le {l : List (List Sm)} (k : Nat) : (l.take k).flatten.length ≤ l.flatten.length := by
 conv => rhs; rw [← List.take_append_drop k l, List.flatten_append, List.length_append]
 omega
theorem samples_any {base : Nat} {w : World} {b n sz mb : Nat} {L : List Se} (h : BkAt base w b n sz mb L) (hT : TabW w) (id : Nat) {s : Sr} (hs0 : getS (bkOf L) id = s) (hcl : s.cl.length ≤ 900) (hall : s.all.length ≤ 100000) :
    Calls Tryz.prog 21 #[.pointer (some ⟨b, 0, none⟩), .int .u32 (id : Nat)] w (Gives w fun v w' => OwnM w.heap.size w' v s.all) := by
  have HA := hid (fun W (hW : ∃ e, W = over w e) => bkAt_any (w := W) (by obtain ⟨e, rfl⟩ := hW; exact h.on e) id); rw [hs0] at HA; have HT := hid hT; clear h hs0 hT
  go_enter Tryz.func21, Tryz.ntmps21
  go_wp2_with (
    (go_at_call 46)
    (with_reducible refine (HA.out _ ovA).mono ?_)
    rintro _ w1 ⟨x, rfl, ⟨e1, hw1⟩, hs, hxs⟩; have O1 : Hid (∃ e, w1 = over w e) := hid (by rw [hw1]; exact ovA); obtain ⟨g, cap, m, ho⟩ := hs.open_; have HS := hid hs; have HO := hid ho; have HX := hid hxs; have r0 := hs.blk.cell 0 rfl; rw [ho.hv] at r0; have l0 := hs.blk.lt; have hm : s.cl.length = m := by rw [← hxs]; exact ho.hc
    clear hw1 hs ho hxs)
  have hg := HO.out.lt; have hpl : x.ps.length = m + 1 := HO.out.hl
  go_loopw [5, 7, 8, 9, 10, 18] (fun v _ _ _ _ i wr => ∃ k : Nat, k ≤ m + 1 ∧ i = .int .i64 (k : Nat) ∧ OwnM w1.heap.size wr v (s.chunks.take k).flatten ∧ Ov w1 wr) (fun _ _ _ _ _ i _ => m + 1 - (intOf i).toNat)
  case atStart => exact ⟨0, Nat.zero_le _, rfl, Own.nil _, ovA⟩
  case round =>
   obtain ⟨k, hk, rfl, hown, ⟨e0, rfl⟩⟩ := hrel; obtain ⟨av, cv, rfl, _⟩ := Own.slice Sm.cs_len hown; have HOW := hid hown; by_cases hlt : k < m + 1
   · have hpk : k < x.ps.length := by omega
     obtain ⟨c, hc1, hc2, hc3, hc4⟩ := HS.out.smp hpk; rw [HX.out] at hc1; have htk := take_flat hc1; have hfl := flat_le (l := s.chunks) (k + 1); rw [chunks_all] at hfl; have hpo := (HO.out.part hpk).ov hg (W := over w1 e0) ⟨e0, rfl⟩; obtain ⟨pt, hptx⟩ : ∃ pt, x.ps[k]'hpk = pt := ⟨_, rfl⟩; rw [hptx] at hpo hc3 hc4; have q0 := hpo.r0; have q1 := hpo.r1; have q2 := hpo.r2; have q3 := hpo.r3; have q4 := hpo.r4; have q5 := hpo.r5; have q6 := hpo.r6; have q7 := hpo.r7; have q8 := hpo.r8; have q9 := hpo.r9; have q10 := hpo.r10; rw [hc3] at q0 q1; have SB := hid hc4.b; rw [hc3] at SB; obtain ⟨ee, hee⟩ : ∃ ee, knowC En.zero c = ee := ⟨_, rfl⟩; have HAll := hid (fun A C W (h1 : TabW W) (h2 : SlB W A C (pack (bitsC En.zero c))) => all_good hc2.wf (by have := hc2.len; omega) hc2.good A C W h1 h2); rw [hee] at HAll; obtain ⟨n0, n1, n2, ⟨n3, n4, n5, n6⟩⟩ := ee; obtain ⟨LL, hLL⟩ : ∃ LL, bitsC En.zero c = LL := ⟨_, rfl⟩; rw [hLL] at HAll SB q0 q1; have HTK := hid htk; have hcl24 := hc2.len; rw [htk, List.length_append] at hfl; have HT1 := hid (TabW.ov HT.out O1.out); obtain ⟨pre, hpre⟩ : ∃ p, (s.chunks.take k).flatten = p := ⟨_, rfl⟩; rw [hpre] at hown HOW hfl HTK ⊢; clear hc1 hc2 hc3 hc4 hpo hptx hee hLL htk hown hpre
     go_wp2_with (first
       | (go_at_call 49; (with_reducible refine (HAll.out _ _ _ (by exact tabA HT1.out) (by exact slA SB.out)).mono ?_); rintro _ _ ⟨a6, c6, rfl, ⟨e6, rfl⟩, s6⟩; have S6 := hid s6; clear s6)
       | (at_builtin
          refine wpList_append sample_elem Sm.cs_len Sm.cs_one rfl (.tmp 29) (.tmp 30) rfl (w1 := over w1 e0) (B := w1) (base := w1.heap.size) (ys := pre) (xs := c) HOW.out rfl rfl ovA ovA (Nat.le_refl _) (by simp) (by exact slA S6.out) (by unfold maxLen; omega) (by omega) ?_; intro v8 x8 ho8 _ _; have HO8 := hid ho8; clear ho8))
     go_roundw
     case rel => exact ⟨k + 1, by omega, by go_num, by rw [HTK.out]; exact HO8.out, ovA⟩
     case measure => (simp [intOf]; try omega)
   · obtain rfl : k = m + 1 := by omega
     have hfa : (s.chunks.take (m + 1)).flatten = s.all := by
      rw [List.take_of_length_le (by rw [chunks_len]; omega), chunks_all]
     have HFA := hid hfa; clear hown hfa; go_wp2; go_ret
     refine ⟨(ovB O1.out), _, rfl, ?_⟩; have hle : w.heap.size ≤ w1.heap.size := by obtain ⟨z, hz⟩ := O1.out; rw [hz]; simp
     rw [← HFA.out]; exact Own.mono HOW.out hle
end
end Go.Proofs.YtnffcckhdedhpaaGreatDoor
