import Derived.Test.YtnffcckhdedhpaaDoorDsP
import Derived.Test.YtnffcckhdedhpaaDoorPD
namespace Go.Proofs.YtnffcckhdedhpaaDoor
set_option linter.unusedVariables false
set_option linter.unusedSimpArgs false
open Go.RowKit
attribute [local go_sem] over_drew chg_drew

set_option maxRecDepth 100000 in
set_option maxHeartbeats 4000000 in
theorem digestSame_any (size : Int) (hz : -9223372036854775808 ≤ size ∧ size ≤ 9223372036854775807) (xs : List Opr) (hx : ∀ o ∈ xs, o.wf) (a : Option Addr) (cap : Nat) (w : World) (hT : TabW w) (hs : SlO w a cap xs) :
    Calls Tryd.prog 4 #[.int .i64 size, .slice a xs.length cap] w (Ret w (.bool true)) := by
  have HKn := hid (fun W (hW : TabW W) => kn26_any W hW)
  by_cases hl : 60 < xs.length
  · have hd : decide (60 < xs.length) = true := decide_eq_true hl
    have hdi : decide ((60 : Int) < (xs.length : Int)) = true := decide_eq_true (by omega)
    clear hx
    go_enter Tryd.func4, Tryd.ntmps4
    go_wp2_with (go_at_call 6; (with_reducible refine (HKn.out _ (by exact tabA hT)).mono ?_); rintro _ _ ⟨⟨e1, rfl⟩, rfl⟩)
    go_ret
    exact ⟨ovA, rfl⟩
  have hd : decide (60 < xs.length) = false := decide_eq_false hl
  have hdi : decide ((60 : Int) < (xs.length : Int)) = false := decide_eq_false (by omega)
  have HLay := hid (fun W (h1 : TabW W) (h2 : SlO W a cap xs) => layB_any size hz xs hx (by omega) a cap W h1 h2)
  have hsz := lsz_ok size
  obtain ⟨sz, hsz0⟩ : ∃ sz, lsz size = sz := ⟨_, rfl⟩
  rw [hsz0] at HLay hsz
  have hol : (opsL xs).length ≤ 60 := by simp [opsL]; omega
  obtain ⟨ops, hops⟩ : ∃ ops, opsL xs = ops := ⟨_, rfl⟩
  rw [hops] at HLay hol
  have hTw := hT
  clear hx hops hsz0
  go_enter Tryd.func4, Tryd.ntmps4
  go_wp2_with (first
    | (go_at_call 6; (with_reducible refine (HKn.out _ (by exact tabA hT)).mono ?_); rintro _ _ ⟨⟨e1, rfl⟩, rfl⟩)
    | (go_at_call 9
       (with_reducible refine (HLay.out _ (by exact tabA hT) (by exact slA hs)).mono ?_)
       rintro _ W1 ⟨b, mb, L, al, cl, rs, rfl, ⟨e1, hW1⟩, hb, he, hsl, hrow, hmap⟩
       have O1 : Hid (∃ e, W1 = over w e) := hid (by rw [hW1]; exact ovA)
       have hLd := laid_of hsz.1 hol hb he hmap
       have HL := hid hLd
       have HSL := hid hsl
       have hrl : rs.length ≤ 60 := by rw [hLd.len]; exact hLd.I.len
       have hLl : L.length = rs.length := by rw [hLd.len, ← hLd.eq]; simp
       have hcl : ∀ id, (getS (bkOf L) id).cl.length ≤ 900 := fun id => by rw [he]; exact getS_mem (P := fun s => s.cl.length ≤ 900) (fun y hy => by obtain ⟨i, hi, rfl⟩ := List.getElem_of_mem hy; obtain ⟨id', s', hK⟩ := hLd.k (show i < rs.length by rw [hLd.len]; exact hi); have h1 := hK.cl; have h2 := hK.get; have h3 := (hLd.at_ i (show i < rs.length by rw [hLd.len]; exact hi)).2.1; rw [hK.nid (show i < rs.length by rw [hLd.len]; exact hi)] at h3; rw [h3, he, getS_at hLd.I.ids hi] at h2; rw [h2]; omega) (by simp [Sr.zero]) id
       have h60 := lvs_60 hLd hsz.1 hol
       have hwf := lvs_wf hb hcl
       have hsum := lvs_sum hLd
       have hlak := lak_self (L := L) (srtN (L.map (·.id)))
       have hlakn := lak_nil_len (L := L) (srtN (L.map (·.id)))
       rw [← lvs_len] at hlakn
       have hap := idsU_all hLd
       have hks : (srtN (L.map (·.id))).length = rs.length := by rw [srtN_len]; simp [hLl]
       have HCh := hid (fun (id : Nat) (W : World) (hW : ∃ e, W = over W1 e) => chunks_any (bk_ov hb hW) id rfl (hcl id))
       have HLv := hid (fun (W : World) (hW : ∃ e, W = over W1 e) => leaves_any (bk_ov hb hW) (by omega) hcl (fun id f hf => by have := bk_bits hb id f hf; omega) (by omega))
       obtain ⟨X, hX⟩ : ∃ X, lvs L (srtN (L.map (·.id))) = X := ⟨_, rfl⟩
       rw [hX] at h60 hwf hsum hlak hlakn hap HLv
       have HLk1 := hid (fun (W : World) (hW : ∃ e, W = over W1 e) A C (h : SlL W A C X) => lacks_any (bk_ov hb hW) (by omega) hcl (fun id f hf => by have := bk_bits hb id f hf; omega) X (by omega) A C h (by rw [hlak]; simp))
       have HLk2 : Hid (∀ (W : World), (∃ e, W = over W1 e) → Calls Tryd.prog 13 #[.pointer (some ⟨b, 0, none⟩), .slice none 0 0] W (ChsP W (lak L [] (srtN (L.map (·.id)))))) := hid (fun (W : World) (hW : ∃ e, W = over W1 e) => lacks_any (bk_ov hb hW) (by omega) hcl (fun id f hf => by have := bk_bits hb id f hf; omega) [] (by simp) none 0 (Sl.nil _) (by rw [hlakn]; omega))
       rw [hlak] at HLk1
       have HA1 := hid (fun (W : World) A C (h : SlL W A C X) => apart_any X X (by omega) (by omega) hwf hwf A A C C W h h)
       have HA2 : Hid (∀ (W : World) A C, SlL W A C X → Calls Tryd.prog 12 #[.slice A X.length C, .slice none 0 0] W (LfsPost W (apL X []))) := hid (fun (W : World) A C (h : SlL W A C X) => apart_any X [] (by omega) (by simp) hwf (by simp) A none C 0 W h (Sl.nil _))
       have hA1 : (apL X X) = [] := by unfold apL; rw [idsU_self]; rfl
       have hA2 : (apL X []).length = rs.length := by unfold apL; rw [List.length_map, hap, hks]
       rw [hA1] at HA1
       obtain ⟨Y, hY⟩ : ∃ Y, apL X [] = Y := ⟨_, rfl⟩
       rw [hY] at HA2 hA2
       obtain ⟨Z, hZ⟩ : ∃ Z, lak L [] (srtN (L.map (·.id))) = Z := ⟨_, rfl⟩
       rw [hZ] at HLk2 hlakn
       obtain ⟨n, hn⟩ : ∃ n, X.length = n := ⟨_, rfl⟩
       rw [hn] at h60 hsum hlakn HLk1 HA1 HA2
       have HXN := hid hn
       have HSum := hid hsum
       have HYN := hid hA2
       have HZN := hid hlakn
       clear hW1 hb he hmap hLd hsl hrow hwf hsum hlak hlakn hap hks hX hA1 hA2 hY hZ hn hLl)
    | (go_at_call 10; (with_reducible refine (HLv.out _ ovA).mono ?_); rintro _ _ ⟨v2, rfl, ⟨e2, rfl⟩, o2⟩; obtain ⟨a2, c2, rfl, s2⟩ := Own.slice Lf.cs_len o2; rw [HXN.out]; have S2 := hid s2; clear o2 s2))
  refine gen_w ?_
  intro W2 hW2
  have O2 : Hid (∃ e, W2 = over W1 e) := hid (by rw [hW2]; exact ovA)
  have S3 : Hid (SlL W2 a2 c2 X) := hid (by rw [hW2]; exact S2.out)
  have HSL2 : Hid _ := hid (Sl.ov HSL.out O2.out)
  clear hW2 S2
  go_loopw [8, 9] (fun v i wr => ∃ k : Nat, k ≤ rs.length ∧ i = .int .i64 (k : Nat) ∧ v = .int .i64 ((((rs.take k).map fun r => (frsB L r.id).length).sum : Nat) : Int) ∧ Ov W2 wr) (fun _ i _ => rs.length - (intOf i).toNat)
  case atStart => exact ⟨0, Nat.zero_le _, rfl, rfl, ovA⟩
  case round =>
    obtain ⟨k, hk, rfl, rfl, ⟨e0, rfl⟩⟩ := hrel
    have hle := sum_take_le' (rs.map fun r => (frsB L r.id).length) (k + 1)
    have hle0 := sum_take_le' (rs.map fun r => (frsB L r.id).length) k
    rw [← List.map_take, ← HSum.out] at hle hle0
    by_cases hlt : k < rs.length
    · obtain ⟨bl, off, rfl, hbl, x0, x1⟩ := SlR.at_ HSL2.out hlt
      have htk : ((rs.take (k + 1)).map fun r => (frsB L r.id).length).sum = ((rs.take k).map fun r => (frsB L r.id).length).sum + (frsB L rs[k].id).length := by
        rw [List.take_succ_eq_append_getElem hlt, List.map_append, List.sum_append]; simp
      obtain ⟨id, hid0⟩ : ∃ id, rs[k].id = id := ⟨_, rfl⟩
      rw [hid0] at x0 htk
      have HC := hid (HCh.out id)
      have hfb : (getS (bkOf L) id).frs id ((getS (bkOf L) id).cl.length + 1) = frsB L id := rfl
      rw [hfb] at HC
      obtain ⟨fs, hfs⟩ : ∃ fs, frsB L id = fs := ⟨_, rfl⟩
      rw [hfs] at HC htk
      obtain ⟨m, hm⟩ : ∃ m, ((rs.take k).map fun r => (frsB L r.id).length).sum = m := ⟨_, rfl⟩
      rw [hm] at htk hle0 ⊢
      rw [htk] at hle
      have HTK := hid htk
      have hdl : decide (k < rs.length) = true := decide_eq_true hlt
      clear hid0 hfb hfs hm htk x1 hcl
      go_wp2_with (go_at_call 11; (with_reducible refine (HC.out _ (by exact ov_tr O2.out ovA)).mono ?_); rintro _ w8 ⟨hov8, v8, fy, rfl, hm8, hf8⟩; obtain ⟨a8, c8, rfl, s8⟩ := Own.slice Fx.cs_len hf8.row; have O8 : Hid (∃ e, w8 = over W2 e) := hid (ov_tr ovA hov8); have hfy : fy.length = fs.length := (by rw [← hm8]; simp); rw [hfy]; clear hov8 hm8 hf8 s8 hfy)
      go_roundw
      case rel => exact ⟨k + 1, by omega, by go_num, by rw [HTK.out]; go_num, by exact (ovB O8.out)⟩
      case measure => (simp [intOf]; try omega)
    · obtain rfl : k = rs.length := by omega
      rw [List.take_length, ← HSum.out]
      have hdl : decide (rs.length < rs.length) = false := decide_eq_false (by omega)
      clear hle hle0 hcl
      go_wp2_with (first
        | (go_at_call 12; (with_reducible refine (HA1.out _ _ _ (by exact slA S3.out)).mono ?_); rintro _ _ ⟨v3, rfl, ⟨e3, rfl⟩, o3⟩; obtain ⟨a3, c3, rfl, _⟩ := Own.slice Lf.cs_len o3; clear o3)
        | (go_at_call 12; (with_reducible refine (HA2.out _ _ _ (by exact slA S6.out)).mono ?_); rintro _ _ ⟨v4, rfl, ⟨e4, rfl⟩, o4⟩; obtain ⟨a4, c4, rfl, _⟩ := Own.slice Lf.cs_len o4; rw [HYN.out]; clear o4)
        | (go_at_call 13; (with_reducible refine (HLk2.out _ (by exact ov_tr O2.out (ovB O5.out))).mono ?_); rintro _ w6 ⟨hov6, v6, fx6, rfl, hm6, hf6⟩; obtain ⟨a6, c6, rfl, _⟩ := Own.slice Fx.cs_len hf6.row; have hl6 : fx6.length = n := (by rw [← HZN.out, ← hm6]; simp); rw [hl6]; have O6 : Hid (∃ e, w6 = over W2 e) := hid (ov_tr (by exact (ovB O5.out)) hov6); have S6 : Hid (SlL w6 a2 c2 X) := hid (Sl.ov S3.out O6.out); clear hov6 hm6 hf6 hl6)
        | (go_at_call 13; (with_reducible refine (HLk1.out _ (by exact ov_tr O2.out ovA) _ _ (by exact slA S3.out)).mono ?_); rintro _ w5 ⟨hov5, v5, fx5, rfl, hm5, hf5⟩; obtain ⟨a5, c5, rfl, _⟩ := Own.slice Fx.cs_len hf5.row; have hl5 : fx5.length = 0 := (by have h := congrArg List.length hm5; simpa using h); rw [hl5]; have O5 : Hid (∃ e, w5 = over W2 e) := hid (ov_tr ovA hov5); clear hov5 hm5 hf5 hl5))
      go_ret
      exact ⟨by exact ov_tr O1.out (ov_tr O2.out (ovB O6.out)), rfl⟩
end Go.Proofs.YtnffcckhdedhpaaDoor
