import Derived.Test.YtnffcckhdedhpaaGreatDoorME
namespace Go.Proofs.YtnffcckhdedhpaaGreatDoor
set_option linter.unusedVariables false
set_option linter.unusedSimpArgs false
set_option maxRecDepth 100000
set_option maxHeartbeats 16000000
open Go.RowKit
attribute [local go_sem] odr cdr
theorem digestMends_any (size : Int) (hz : -9223372036854775808 ≤ size ∧ size ≤ 9223372036854775807) (xs : List Opr) (hx : ∀ o ∈ xs, o.wf) (a : Option Addr) (cap : Nat) (kk : Int) (hkk : -9223372036854775808 ≤ kk ∧ kk ≤ 9223372036854775807) (w : World) (hT : TabW w) (hs : SlO w a cap xs) :
    Calls Tryz.prog 4 #[.int .i64 size, .slice a xs.length cap, .int .i64 kk] w (Ret w (.bool true)) := by
  have HKn := hid (fun W (hW : TabW W) => kn26_any W hW); by_cases hl : 50 < xs.length
  · have hd : decide (50 < xs.length) = true := decide_eq_true hl; have hdi : decide ((50 : Int) < (xs.length : Int)) = true := decide_eq_true (by omega); clear hx
    go_enter Tryz.func4, Tryz.ntmps4; go_wp2_with (go_at_call 5; (with_reducible refine (HKn.out _ (by exact tabA hT)).mono ?_); rintro _ _ ⟨⟨e1, rfl⟩, rfl⟩)
    go_ret
    exact ⟨ovA, rfl⟩
  have hd : decide (50 < xs.length) = false := decide_eq_false hl; have hdi : decide ((50 : Int) < (xs.length : Int)) = false := decide_eq_false (by omega); obtain ⟨n, hn⟩ : ∃ n : Nat, max kk 0 % ((xs.length : Int) + 1) = n := ⟨(max kk 0 % ((xs.length : Int) + 1)).toNat, by have := Int.emod_nonneg (max kk 0) (b := (xs.length : Int) + 1) (by omega); omega⟩; have hnx : n ≤ xs.length := by have := Int.emod_lt_of_pos (max kk 0) (b := (xs.length : Int) + 1) (by omega); omega
  have hnt : (max kk 0).tmod ((xs.length : Int) + 1) = n := by rw [Int.tmod_eq_emod_of_nonneg (by omega)]; exact hn
  have hcapn : n ≤ cap := by have := hs.le; omega
  have hnl : (xs.take n).length = n := by rw [List.length_take]; omega
  have HLay := hid (fun W (h1 : TabW W) (h2 : SlO W a cap xs) => layB_any size hz xs hx (by omega) a cap W h1 h2); have HLy2 := hid (fun W (h1 : TabW W) (h2 : SlO W a cap (xs.take n)) => layB_any size hz (xs.take n) (fun o ho => hx o (List.mem_of_mem_take ho)) (by omega) a cap W h1 h2); rw [hnl] at HLy2; have hops2 : opsL (xs.take n) = (opsL xs).take n := by unfold opsL; rw [List.map_take]
  rw [hops2] at HLy2; have hsz := lsz_ok size; obtain ⟨sz, hsz0⟩ : ∃ sz, lsz size = sz := ⟨_, rfl⟩; rw [hsz0] at HLay HLy2 hsz; have hol : (opsL xs).length = xs.length := by simp [opsL]
  obtain ⟨ops, hops⟩ : ∃ ops, opsL xs = ops := ⟨_, rfl⟩; rw [hops] at HLay HLy2 hol; have hol2 : (ops.take n).length ≤ 60 := by rw [List.length_take]; omega
  have HTw := hid hT; have HST := hid (Sl.takeN hs n); have hmx := len_max hs; clear hx hops hsz0 hops2 hnl
  go_enter Tryz.func4, Tryz.ntmps4
  go_wp2_with (first
    | (go_at_call 5; (with_reducible refine (HKn.out _ (by exact tabA hT)).mono ?_); rintro _ _ ⟨⟨e1, rfl⟩, rfl⟩)
    | (go_at_call 6
       (with_reducible refine (HLay.out _ (by exact tabA hT) (by exact slA hs)).mono ?_)
       rintro _ W1 ⟨b, mb, L, al, cl, rs, rfl, ⟨e1, hW1⟩, hb, he, hsl, hrow, hmap⟩; have O1 : Hid (∃ e, W1 = over w e) := hid (by rw [hW1]; exact ovA); have hLd := laid_of hsz.1 (by omega) hb he hmap; have HL := hid hLd; have HSL := hid hsl; have HROW := hid hrow; have hrl : rs.length ≤ 60 := by rw [hLd.len]; exact hLd.I.len
       have HT1 := hid (TabW.ov HTw.out O1.out); have HST1 := hid (Sl.ov HST.out O1.out); clear hW1 hb he hmap hLd hsl hrow)
    | (go_at_call 6
       (with_reducible refine (HLy2.out _ (by exact tabA HT1.out) (by exact slA HST1.out)).mono ?_)
       rintro _ W2 ⟨b2, mb2, Lb, al2, cl2, rs2, rfl, ⟨e2, hW2⟩, hb2, he2, hsl2, hrow2, hmap2⟩; have O2 : Hid (∃ e, W2 = over W1 e) := hid (by rw [hW2]; exact ovA); have hLd2 := laid_of hsz.1 hol2 hb2 he2 hmap2; obtain ⟨j, m, q, hM⟩ := mnd_of hsz.1 (by omega) HL.out hLd2; have hY60 := lvs_60 hLd2 hsz.1 hol2; have hX60 := lvs_60 HL.out hsz.1 (by omega); have hclb := laid_cl hLd2; have hcla := laid_cl HL.out; have hXw := lvs_wf HL.out.bk hcla; have hLl : L.length ≤ 60 := (by have h1 := HL.out.len; have h2 : L.length = (layS sz ops).length := (by rw [← HL.out.eq]; simp); omega); have hLbl : Lb.length ≤ 60 := (by have h1 := hLd2.I.len; have h2 : Lb.length = (layS sz (ops.take n)).length := (by rw [← hLd2.eq]; simp); omega); have hkl : (srtN (L.map (·.id))).length ≤ 60 := (by rw [srtN_len]; simp; omega); have hk32 : ∀ u ∈ srtN (L.map (·.id)), u < 4294967296 := (fun u hu => by rw [(srtN_perm _).mem_iff] at hu; obtain ⟨y, hy, rfl⟩ := List.mem_map.1 hu; exact HL.out.bk.id32 y hy); have hids : ∀ x ∈ Lb, x.id ∈ srtN (L.map (·.id)) := (fun x hx => by
        rw [(srtN_perm _).mem_iff]; by_cases hi : x.id ∈ L.map (·.id)
        · exact hi
        · exfalso
          have h1 : x.id ∈ Lb.map (·.id) := List.mem_map.2 ⟨x, hx, rfl⟩; have h2 := frsB_ne hLd2 h1; exact h2 (mnd_ids hM hi))
       have hDl : (lak L (lvs Lb (srtN (Lb.map (·.id)))) (srtN (L.map (·.id)))).length ≤ 60 := Nat.le_trans (lak_len _ _ _) hX60; have HLa := hid (fun (W : World) (hW : ∃ e, W = over W1 e) => leaves_any (bk_ov HL.out.bk hW) (by omega) hcla (fun id f hf => by have := bk_bits HL.out.bk id f hf; omega) (by omega)); have HLb := hid (fun (W : World) (hW : ∃ e, W = over W2 e) => leaves_any (bk_ov hLd2.bk hW) (by omega) hclb (fun id f hf => by have := bk_bits hLd2.bk id f hf; omega) (by omega)); have HLk := hid (fun (W : World) (hW : ∃ e, W = over W1 e) A C (h : SlL W A C (lvs Lb (srtN (Lb.map (·.id))))) => lacks_any (bk_ov HL.out.bk hW) (by omega) hcla (fun id f hf => by have := bk_bits HL.out.bk id f hf; omega) _ (by omega) A C h (by omega)); have hbk2 := hLd2.bk; have hsp2 : ∀ k ∈ bkB b2 mb2 Lb, k < W2.heap.size := fun k hk => (hbk2.blt k hk).2; have HEnd := hid (fun W L' w8 bF (h : MndB W1 w8 W1.heap.size bF b2 mb2 sz _ (mndG L _ j m q _) L' W) => mnd_lvs hM HL.out h); have hXs := idsU_self (lvs L (srtN (L.map (·.id)))); obtain ⟨Y, hY⟩ : ∃ Y, lvs Lb (srtN (Lb.map (·.id))) = Y := ⟨_, rfl⟩; obtain ⟨X, hX⟩ : ∃ X, lvs L (srtN (L.map (·.id))) = X := ⟨_, rfl⟩; obtain ⟨ks, hks⟩ : ∃ ks, srtN (L.map (·.id)) = ks := ⟨_, rfl⟩; rw [hY] at hY60 HLb; simp only [hY] at HLk hDl hM HEnd; rw [hX] at hX60 hXw HLa; simp only [hX] at HEnd hXs; rw [hks] at hkl hDl hM; simp only [hks] at HLk HEnd hk32 hids; obtain ⟨D, hD⟩ : ∃ D, lak L Y ks = D := ⟨_, rfl⟩; rw [hD] at hDl hM; simp only [hD] at HLk HEnd; have HM := hid hM; have HXW := hid hXw; have HIDS := hid hids; have HK32 := hid hk32; have HCLA := hid hcla; have HBK2 := hid hbk2; have HSP2 := hid hsp2; have HXS := hid hXs; clear hW2 he2 hmap2 hsl2 hrow2 hb2 hLd2 hM hclb hcla hXw hids hk32 hbk2 hsp2 hY hX hks hD hXs hLl hLbl)
    | (go_at_call 9; (with_reducible refine (HLb.out _ ovA).mono ?_); rintro _ W3 ⟨v3, rfl, ho3, o3⟩; obtain ⟨a3, c3, rfl, s3⟩ := Own.slice Lf.cs_len o3; have O3 : Hid (∃ e, W3 = over W2 e) := hid ho3; have S3 := hid s3; clear o3 s3 ho3)
    | (go_at_call 11; (with_reducible refine (HLk.out _ (by exact ov_tr O2.out (ovB O3.out)) _ _ (by exact slA S3.out)).mono ?_); rintro _ w8 ⟨hov8, v8, fx, rfl, hm8, hf8⟩; obtain ⟨a8, c8, rfl, s8⟩ := Own.slice Fx.cs_len hf8.row; have O8 : Hid (∃ e, w8 = over W2 e) := hid (by exact ov_tr (ovB O3.out) hov8); have HF8 := hid hf8; have HM8 := hid hm8; have hf8l : D.length = fx.length := (by rw [← hm8]; simp); obtain ⟨N, hN⟩ : ∃ N, fx.length = N := ⟨_, rfl⟩; rw [hN] at hf8l ⊢; have HN := hid hN; have HDN := hid hf8l; have hN60 : N ≤ 60 := (by omega); have hz3 : W2.heap.size ≤ W3.heap.size := (by obtain ⟨e, he⟩ := O3.out; rw [he]; simp); clear hov8 hm8 hf8 s8 hf8l hN))
  obtain ⟨bF, hbF⟩ : ∃ n, W3.heap.size = n := ⟨_, rfl⟩; have I8 : Hid (MndB W1 w8 W1.heap.size bF b2 mb2 sz ks (mndG L D j m q 0) Lb w8) := hid ⟨bk_ov HBK2.out O8.out, ov_tr O2.out O8.out, HIDS.out, HM.out.zero, fun k hk => .inl (by have := HSP2.out k hk; omega), fun _ _ _ => rfl, Nat.le_refl _⟩; rw [hbF] at HF8; clear hbF hz3
  go_loopw [13] (fun i wr => ∃ (k : Nat) (L' : List Se), k ≤ N ∧ i = .int .i64 (k : Nat) ∧ MndB W1 w8 W1.heap.size bF b2 mb2 sz ks (mndG L D j m q k) L' wr) (fun i _ => N - (intOf i).toNat)
  case atStart => exact ⟨0, Lb, Nat.zero_le _, rfl, I8.out.cg ovA⟩
  case round =>
   obtain ⟨k, L', hk, rfl, hI⟩ := hrel; have HI := hid hI; have O4 := hid hI.ov; by_cases hltN : k < N
   · have hlt : k < fx.length := by rw [HN.out]; exact hltN
     have hFr := frs_at HF8.out hI.keep; clear hI; obtain ⟨a9, c9, hv9, hs9⟩ := Own.slice Fx.cs_len hFr.row; simp only [Value.slice.injEq] at hv9; obtain ⟨rfl, _, rfl⟩ := hv9; obtain ⟨b8, o8, rfl, hb8, hcell⟩ := SlF.at_ hs9 hlt; have hbq := hFr.bits _ (List.getElem_mem hlt); have hkD : k < D.length := by rw [HDN.out]; exact hltN
     have hDk : D[k]'hkD = (fx[k]'hlt).f := by
      have h := congrArg (fun l => l[k]?) HM8.out; simp only [List.getElem?_map, List.getElem?_eq_getElem hlt, List.getElem?_eq_getElem hkD, Option.map_some, Option.some.injEq] at h; exact h.symm
     obtain ⟨u, kc, c, cf, hX⟩ := HM.out.step hkD hDk; have hXx := hX.hx; obtain ⟨x, hx⟩ : ∃ x, fx[k]'hlt = x := ⟨_, rfl⟩; rw [hx] at hcell hbq hXx; obtain ⟨xf, xa, xc⟩ := x; simp only at hXx; subst hXx; obtain ⟨ax, cx, hxe, hxs⟩ := Own.slice (sz := 1) (cells := bcs) (fun _ => rfl) hbq; simp only [Value.slice.injEq] at hxe; obtain ⟨rfl, _, rfl⟩ := hxe; have hcu := HCLA.out u; have hTk := fun (W : World) (hW : ∃ e, W = over wr e) => mnd_take HI.out hW (TabW.ov HT1.out (ov_tr O4.out hW)) (Nat.le_refl _) hkl hsz (⟨0, 0, u, kc, 0, 0, c.length, cf, 0, xa, xc, pack (bitsC En.zero c), (bitsC En.zero c).length⟩ : Fi) ⟨HK32.out u hX.hu, by have := hX.hk; simp only; omega, by simp only; omega, by simp only; omega, by have := hX.c24; simp only; omega, Sl.ov hxs hW, pack_lt, by have e := pack_length (bitsC En.zero c); have := hX.len; unfold nb at e; simp only [chF] at e ⊢; omega, by have := hX.len; simp only; omega⟩ (by have := hX.hcl; simp only; omega) (hX.take _ rfl rfl rfl rfl) hX.okk hX.hu (mndG L D j m q (k + 1)) hX.st; have z0 := hcell 0 _ rfl; have z1 := hcell 1 _ rfl; have z2 := hcell 2 _ rfl; have z3 := hcell 3 _ rfl; have z4 := hcell 4 _ rfl; have z5 := hcell 5 _ rfl; have z6 := hcell 6 _ rfl; have z7 := hcell 7 _ rfl; have z8 := hcell 8 _ rfl; have z9 := hcell 9 _ rfl; have z10 := hcell 10 _ rfl; rw [Nat.add_zero] at z0; have HTk := hid hTk; obtain ⟨pn, hpn⟩ : ∃ n, (pack (bitsC En.zero c)).length = n := ⟨_, rfl⟩; obtain ⟨bn, hbn⟩ : ∃ n, (bitsC En.zero c).length = n := ⟨_, rfl⟩; obtain ⟨cn, hcn⟩ : ∃ n, c.length = n := ⟨_, rfl⟩; have h00 : ((0 : Nat) : Int) = 0 := rfl; simp only [Fi.v, chF, hpn, hbn, hcn, h00] at HTk z6 z9 z10; simp only [chF] at z2 z3 z4 z5 z7 z8; have hdk : decide (k < N) = true := decide_eq_true hltN; clear hTk hcell hbq hFr hs9 hkD hDk hX hx hxs hpn hbn hcn hcu hlt; go_wp2_with (go_at_call 19; (with_reducible refine (HTk.out _ ovA).mono ?_); rintro _ W5 ⟨rfl, L5, hB5⟩; have HB5 := hid hB5; clear hB5)
     go_roundw
     case rel => exact ⟨k + 1, L5, by omega, by go_num, HB5.out.cg ovA⟩
     case measure => (simp [intOf]; try omega)
   · obtain rfl : k = N := by omega
     have hdk : decide (k < k) = false := decide_eq_false (by omega); obtain ⟨hE1, hE2, hE3⟩ := HEnd.out wr L' w8 bF (by rw [HDN.out]; exact hI); have hbk := hI.bk; have hL2 : L'.length ≤ 60 := Nat.le_trans hI.len hkl; have HLb2 := hid (fun (W : World) (hW : ∃ e, W = over wr e) => leaves_any (bk_ov hbk hW) (by omega) (fun id => by rw [hE1 id]; exact HCLA.out id) (fun id f hf => by have := bk_bits hbk id f hf; omega) (by rw [hE3]; omega)); rw [hE3] at HLb2; have HSmp := hid (fun (id : Nat) (s : Sr) (hs : getS (bkOf L) id = s) (hc : s.cl.length ≤ 900) (ha : s.all.length ≤ 100000) (W : World) (hW : ∃ e, W = over wr e) => samples_any (bk_ov hbk hW) (TabW.ov HT1.out (ov_tr O4.out hW)) id (by rw [hE1 id]; exact hs) hc ha); have HP := hid (fun (W : World) A C A' C' (h : SlL W A C X) (h' : SlL W A' C' X) => apart_any X X (by omega) (by omega) HXW.out HXW.out A A' C C' W h h'); have hA1 : (apL X X) = [] := by unfold apL; rw [HXS.out]; rfl
     rw [hA1] at HP; have HR := hid (fun A C (W : World) (h : SlL W A C X) => root_any X (by omega) HXW.out A C W h); have HLa2 := hid (fun (W : World) (hW : ∃ e, W = over wr e) => HLa.out W (ov_tr O4.out hW)); have HSL2 := hid (Sl.ov HSL.out O4.out); clear hI hE1 hE2 hE3 hbk hL2 hA1; go_wp2
     go_loopw [14] (fun i wx => ∃ k : Nat, k ≤ rs.length ∧ i = .int .i64 (k : Nat) ∧ Ov wr wx) (fun i _ => rs.length - (intOf i).toNat)
     case atStart => exact ⟨0, Nat.zero_le _, rfl, ovA⟩
     case round =>
      obtain ⟨k, hk, rfl, ⟨e0, rfl⟩⟩ := hrel; by_cases hlt2 : k < rs.length
      · obtain ⟨bl, off, rfl, hbl, x0, x1⟩ := SlR.at_ HSL2.out hlt2; obtain ⟨id, s, hK⟩ := HL.out.k hlt2; have HRW : Hid (SlM wr rs[k].a rs[k].c s.all) := hid (by have h := HROW.out _ (List.getElem_mem hlt2); rw [hK.l hlt2] at h; exact Sl.ov h O4.out); rw [hK.nid hlt2] at x0; rw [hK.l hlt2] at x1; obtain ⟨ra, hra⟩ : ∃ ra, rs[k].a = ra := ⟨_, rfl⟩; obtain ⟨rc, hrc⟩ : ∃ rc, rs[k].c = rc := ⟨_, rfl⟩; rw [hra, hrc] at HRW x1; have hcl := hK.cl; have hall := hK.all; have HSm := hid (HSmp.out id s hK.get (by omega) (by omega)); have HSame := hid (fun A C W (h1 : SlM W A C s.all) (h2 : SlM W ra rc s.all) => rcsame_any s.all s.all (by omega) A C ra rc W h1 h2); rw [decide_eq_true rfl] at HSame; obtain ⟨sl, hsl⟩ : ∃ l, s.all = l := ⟨_, rfl⟩; rw [hsl] at x1 hall HSm HSame HRW; obtain ⟨ll, hll⟩ : ∃ l, sl.length = l := ⟨_, rfl⟩; rw [hll] at x1 HSame hall; have HLL := hid hll; have hdk2 : decide (k < rs.length) = true := decide_eq_true hlt2; clear hK hra hrc hsl hll; go_wp2; refine M2.wrm [6, 12] 14 (by kernel_rfl) (by kernel_rfl) (by decide) ?_; simp only [M2.td]; with_reducible refine M2.mlq 6 (by kernel_rfl) ?_
        simp only [M2.td]; repeat (go_big_quiet_step (fail))
        with_reducible refine wpQuiet_nil ?_
        with_reducible refine M2.mixL_eff (by decide) ?_
        go_wp2_with ((go_at_call 21; (with_reducible refine (HSm.out _ ovA).mono ?_); rintro _ _ ⟨⟨e6, rfl⟩, v6, rfl, o6⟩; obtain ⟨a6, c6, rfl, sx6⟩ := Own.slice Sm.cs_len o6; (try simp only [odr] at sx6); have S6 := hid sx6; (try rw [HLL.out]); clear o6 sx6))
        refine M2.MixQ.mk ovA ?_; with_reducible refine M2.mlq 5 (by kernel_rfl) ?_
        simp only [M2.td]; repeat (go_big_quiet_step (fail))
        with_reducible refine wpQuiet_nil ?_
        with_reducible refine M2.mixL_eff (by decide) ?_
        go_wp2_with ((go_at_call 20; (with_reducible refine (HSame.out _ _ _ (by exact slA S6.out) (by exact slA HRW.out)).mono ?_); rintro _ _ ⟨⟨e7, rfl⟩, rfl⟩))
        refine M2.MixQ.mk ovA ?_; with_reducible refine M2.mlq 1 (by kernel_rfl) ?_
        simp only [M2.td]; repeat (go_big_quiet_step (fail))
        with_reducible refine wpQuiet_nil ?_
        with_reducible refine M2.mln ?_
        with_reducible refine M2.mln ?_
        go_wp2; go_roundw
        case rel => exact ⟨k + 1, by omega, by go_num, ovA⟩
        case measure => (simp [intOf]; try omega)
      · obtain rfl : k = rs.length := by omega
        have hdk2 : decide (rs.length < rs.length) = false := decide_eq_false (by omega)
        go_wp2_with (first
          | (go_at_call 9; (with_reducible refine (HLa2.out _ ovA).mono ?_); rintro _ _ ⟨v31, rfl, ⟨e31, rfl⟩, o31⟩; obtain ⟨a31, c31, rfl, s31⟩ := Own.slice Lf.cs_len o31; have S31 := hid s31; clear o31 s31)
          | (go_at_call 9; (with_reducible refine (HLb2.out _ ovA).mono ?_); rintro _ _ ⟨v32, rfl, ⟨e32, rfl⟩, o32⟩; obtain ⟨a32, c32, rfl, s32⟩ := Own.slice Lf.cs_len o32; have S32 := hid s32; clear o32 s32)
          | (go_at_call 17; (with_reducible refine (HP.out _ _ _ _ _ (by exact slA S31.out) (by exact slA S32.out)).mono ?_); rintro _ _ ⟨v33, rfl, ⟨e33, rfl⟩, o33⟩; obtain ⟨a33, c33, rfl, s33⟩ := Own.slice Lf.cs_len o33; clear o33 s33)
          | (go_at_call 15; (with_reducible refine (HR.out _ _ _ (by exact slA S31.out)).mono ?_); rintro _ _ ⟨⟨e34, rfl⟩, rfl⟩)
          | (go_at_call 15; (with_reducible refine (HR.out _ _ _ (by exact slA S32.out)).mono ?_); rintro _ _ ⟨⟨e35, rfl⟩, rfl⟩))
        go_ret
        exact ⟨(ovB (ov_tr O1.out O4.out)), rfl⟩
end Go.Proofs.YtnffcckhdedhpaaGreatDoor
