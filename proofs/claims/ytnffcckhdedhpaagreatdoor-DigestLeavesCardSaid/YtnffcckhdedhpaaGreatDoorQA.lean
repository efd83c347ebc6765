import Derived.Test.YtnffcckhdedhpaaGreatDoorPC
import Derived.Test.YtnffcckhdedhpaaGreatDoorNC
import Derived.Test.YtnffcckhdedhpaaGreatDoorPB
import Derived.Test.YtnffcckhdedhpaaGreatDoorKC
namespace Go.Proofs.YtnffcckhdedhpaaGreatDoor
set_option linter.unusedVariables false
set_option linter.unusedSimpArgs false
set_option maxRecDepth 100000
set_option maxHeartbeats 16000000
section
open Go.RowKit
attribute [local go_sem] odr cdr
theorem rleaf_any (f : Fr) (hl : f.bits.length ≤ 900000) (a : Option Addr) (cap : Nat) (w : World) (hs : SlB w a cap (pack f.bits)) :
    Calls Tryz.prog 33 #[f.v a cap] w (Ret w (lfO f).v) := by
  obtain ⟨sr, ⟨ch, bi, n⟩, ct, cl, sm, bs⟩ := f; simp only at hl hs; have HR := hid (fun (W : World) (h : ∃ e, W = over w e) => rof5_any bs hl a cap W (Sl.ov hs h)); obtain ⟨r, hr⟩ : ∃ r, moreR 0 bs = r := ⟨_, rfl⟩; obtain ⟨pn, hpn⟩ : ∃ n, (pack bs).length = n := ⟨_, rfl⟩; obtain ⟨bn, hbn⟩ : ∃ n, bs.length = n := ⟨_, rfl⟩; rw [hr, hpn, hbn] at HR; simp only [Fr.v, lfO, hr, hpn, hbn, Lf.v]; clear hs hl hr hpn hbn
  go_enter Tryz.func33, Tryz.ntmps33; go_wp2_with (go_at_call 40; (with_reducible refine (HR.out _ ovA).mono ?_); rintro _ _ ⟨⟨e1, rfl⟩, rfl⟩)
  (try simp only [Exit.inBlock, Exit.then])
  refine bodyPost_ret (v := ?rv100) ?rh100 rfl ?rp100
  case rh100 => (simp only [results, show Tryz.f33.results = #[.cell 2 65] from rfl]; go_simp; rfl)
  exact ⟨ovA, rfl⟩
end
section
open Go.RowKit
attribute [local go_sem] odr cdr
attribute [local go_sem high] leaf_eqlN
theorem hasLf_any (l : List Lf) (hl : l.length ≤ 100000) (x : Lf) (a : Option Addr) (c : Nat) (w : World) (h1 : SlL w a c l) :
    Calls Tryz.prog 36 #[.slice a l.length c, x.v] w (Ret w (.bool (decide (x ∈ l)))) := by
  obtain ⟨y1, y2, y3, y4⟩ := x; have HR : Hid (∀ b : Bool, (b = true ↔ (⟨y1, y2, y3, y4⟩ : Lf) ∈ l) → decide ((⟨y1, y2, y3, y4⟩ : Lf) ∈ l) = b) := hid (fun b h => by rw [Bool.eq_iff_iff, decide_eq_true_iff]; exact h.symm); obtain ⟨r, hr⟩ : ∃ r, decide ((⟨y1, y2, y3, y4⟩ : Lf) ∈ l) = r := ⟨_, rfl⟩; rw [hr] at HR ⊢; clear hr; simp only [Lf.v]
  go_enter Tryz.func36, Tryz.ntmps36; go_wp2
  go_loopw [5] (fun i wr => ∃ k : Nat, k ≤ l.length ∧ i = .int .i64 (k : Nat) ∧ (⟨y1, y2, y3, y4⟩ : Lf) ∉ l.take k ∧ Ov (w.alloc (.cells #[.int .u32 (y1 : Nat), .int .u32 (y2 : Nat), .int .u32 (y3 : Nat), .int .u64 (y4 : Nat)] 65)) wr) (fun i _ => l.length - (intOf i).toNat)
  case atStart => exact ⟨0, Nat.zero_le _, rfl, by simp, ovA⟩
  case round =>
   obtain ⟨k, hk, rfl, hn, ⟨e0, rfl⟩⟩ := hrel; by_cases hlt : k < l.length
   · obtain ⟨ub, uo, rfl, hub, u0, u1, u2, u3⟩ := SlL.at_ h1 hlt; have htk := List.take_succ_eq_append_getElem hlt; have hmem : l[k]'hlt ∈ l := List.getElem_mem hlt; obtain ⟨⟨x1, x2, x3, x4⟩, hx⟩ : ∃ x, l[k]'hlt = x := ⟨_, rfl⟩; rw [hx] at u0 u1 u2 u3 htk hmem; simp only at u0 u1 u2 u3; have hd : decide (k < l.length) = true := decide_eq_true hlt; by_cases he : (⟨x1, x2, x3, x4⟩ : Lf) = ⟨y1, y2, y3, y4⟩
     · have hr := HR.out true ⟨fun _ => by rw [← he]; exact hmem, fun _ => rfl⟩; have hee : lfEq ⟨x1, x2, x3, x4⟩ ⟨y1, y2, y3, y4⟩ = true := decide_eq_true he; clear hx h1 he htk hmem hn; go_wp2; refine wro (by kernel_rfl) (by kernel_rfl) ?_; repeat (go_big_quiet_step ((fail)))
       refine wpQuiet_nil ?_; intro _ hw'; obtain ⟨nq, rfl⟩ := hw'; go_wp2; go_ret
       exact ⟨ovA, by first | (rw [hr]; done) | (rw [hr]; rfl) | simp [hr]⟩
     · have HN : Hid ((⟨y1, y2, y3, y4⟩ : Lf) ∉ l.take (k + 1)) := hid (by rw [htk, List.mem_append]; intro h; rcases h with h | h; exact hn h; exact he (List.mem_singleton.1 h).symm)
       have hee : lfEq ⟨x1, x2, x3, x4⟩ ⟨y1, y2, y3, y4⟩ = false := decide_eq_false he; clear hx h1 he htk hmem hn; go_wp2; refine wro (by kernel_rfl) (by kernel_rfl) ?_; repeat (go_big_quiet_step ((fail)))
       refine wpQuiet_nil ?_; intro _ hw'; obtain ⟨nq, rfl⟩ := hw'; go_wp2; go_roundw
       case rel => exact ⟨k + 1, by omega, by go_num, HN.out, ovA⟩
       case measure => (simp [intOf]; try omega)
   · obtain rfl : k = l.length := by omega
     rw [List.take_length] at hn; have hr := HR.out false ⟨fun h => absurd h (by decide), fun h => absurd h hn⟩; clear h1 hn; go_wp2; go_ret
     exact ⟨ovA, by first | (rw [hr]; done) | (rw [hr]; rfl) | simp [hr]⟩
end
section
open Go.RowKit
attribute [local go_sem] odr cdr
theorem rseries_any {base : Nat} {w : World} {p sz : Nat} {v : Value} {rs : List Rr} {R : List (Nat × Sr)} (h : RbAt base w p sz v rs R) (hlen : rs.length ≤ 100000) :
    Calls Tryz.prog 31 #[.pointer (some ⟨p, 0, none⟩)] w (SerRes w (R.map (·.1))) := by
  have hp2 := h.blk.cell 2 rfl; have hpl := h.blk.lt; have hl := h.len; obtain ⟨av, cv, hv, hsl⟩ := Own.slice Rr.cs_len h.row; have HAT : Hid (∀ k (hk : k < rs.length), ∃ h2 : k < R.length, rs[k].id = R[k].1) := hid (fun k hk => by obtain ⟨h2, h3, _⟩ := h.at_ hk; exact ⟨h2, h3⟩); have HSL := hid hsl; rw [hv] at hp2; have HL := hid hl; clear h hl hv hsl
  go_enter Tryz.func31, Tryz.ntmps31; go_wp2
  go_loopw [3, 4] (fun o i wr => ∃ k : Nat, k ≤ rs.length ∧ i = .int .i64 (k : Nat) ∧ OwnW w.heap.size wr o ((R.map (·.1)).take k) ∧ Ov w wr) (fun _ i _ => rs.length - (intOf i).toNat)
  case atStart => exact ⟨0, Nat.zero_le _, rfl, Own.nil _, ovA⟩
  case round =>
   obtain ⟨k, hk, rfl, hown, ⟨e0, rfl⟩⟩ := hrel; have hmx := len_max HSL.out; by_cases hlt : k < rs.length
   · obtain ⟨sb, so, ha, hsb, hcell⟩ := HSL.out.rec_ k _ (List.getElem?_eq_getElem hlt); subst ha; have x0 := hcell 0 _ rfl; rw [Nat.add_zero] at x0; obtain ⟨h2, h3⟩ := HAT.out k hlt; have htk : (R.map (·.1)).take (k + 1) = (R.map (·.1)).take k ++ [R[k].1] := by rw [List.take_succ_eq_append_getElem (by simpa using h2)]; simp
     rw [h3] at x0; obtain ⟨id, hid0⟩ : ∃ id, R[k].1 = id := ⟨_, rfl⟩; rw [hid0] at x0 htk; have hal : ((R.map (·.1)).take k).length ≤ 100000 := by rw [List.length_take]; omega
     obtain ⟨A, hA⟩ : ∃ A, (R.map (·.1)).take k = A := ⟨_, rfl⟩; rw [hA] at hown htk hal; have HTK := hid htk; obtain ⟨ao, co, rfl, _⟩ := Own.slice wcs_len hown; have HOW := hid hown; have hd : decide (k < rs.length) = true := decide_eq_true hlt; clear hcell h2 h3 hid0 hA htk hown
     go_wp2_with (
       at_builtin
       refine gen_w ?_; intro W3 hW3; have O3 : Hid (∃ e, W3 = over (over w e0) e) := hid (by rw [hW3]; exact ovA); have S3 : Hid (Sl 1 wcs W3 (some ⟨(over w e0).heap.size, 0, none⟩) 1 [id]) := hid (by rw [hW3]; exact (by (repeat with_reducible refine Sl.drew ?_); exact Sl.one_new (y := id) (by simp; try omega))); have H3 : Hid (OwnW w.heap.size W3 (.slice ao A.length co) A) := hid (by obtain ⟨e, he⟩ := O3.out; rw [he]; exact HOW.out.over e); have hz3 : w.heap.size ≤ W3.heap.size := by obtain ⟨e, he⟩ := O3.out; rw [he]; simp; omega
       simp only [size_over] at S3; refine wpList_append' u32_elem wcs_len wcs_one rfl (.tmp 14) (.tmp 23) rfl (base := w.heap.size) (v := .slice ao A.length co) (ys := A) (xs := [id]) H3.out rfl rfl hz3 S3.out (by simp only [List.length_singleton]; unfold maxLen; omega) (by simp only [List.length_singleton]; omega) ?_; intro v' m6 ho2 _; refine gen_w ?_; intro W5 hW5; have C5 : Chg (Value.slice ao A.length co).ownBlock.toList W3 W5 := by rw [hW5]; exact chg_chg _ _ _
       rw [← hW5] at ho2; have HO2 := hid ho2; have HOV : Hid (∃ e, W5 = over w e) := hid (Chg.ov (ov_tr ⟨e0, rfl⟩ O3.out) C5 (fun g hg => (Own.lt H3.out (by simpa using hg)).1)); clear hW3 hW5 C5 ho2)
     go_roundw
     case rel => exact ⟨k + 1, by omega, by go_num, by rw [HTK.out]; exact HO2.out, HOV.out⟩
     case measure => (simp [intOf]; try omega)
   · obtain rfl : k = rs.length := by omega
     have hown2 : OwnW w.heap.size (over w e0) u3 (R.map (·.1)) := by
      have h := hown; rw [List.take_of_length_le (by rw [List.length_map]; have := HL.out; omega)] at h; exact h
     have HOW2 := hid hown2; have hd : decide (rs.length < rs.length) = false := decide_eq_false (by omega); clear hown hown2; go_wp2; go_ret
     exact ⟨ovA, _, rfl, HOW2.out⟩
theorem rleaves_any {base : Nat} {w : World} {p sz : Nat} {v : Value} {rs : List Rr} {R : List (Nat × Sr)} (h : RbAt base w p sz v rs R) (hT : TabW w) (hlen : rs.length ≤ 100000) {L : List Se} (hg : ∀ id, getS R id = getS (bkOf L) id) (hok : ∀ id, SrOk (getS (bkOf L) id)) (hcl : ∀ id, (getS (bkOf L) id).cl.length ≤ 900)
    (hbits : ∀ id, ∀ f ∈ frsB L id, f.bits.length ≤ 900000) (hB : (lvs L (R.map (·.1))).length ≤ 100000) :
    Calls Tryz.prog 10 #[.pointer (some ⟨p, 0, none⟩)] w (LfsPost w (lvs L (R.map (·.1)))) := by
  have HSer := hid (fun (W : World) (hW : ∃ e, W = over w e) => rseries_any (RbAt.ov h hW) (by omega)); have HCh := hid (fun (id : Nat) (W : World) (hW : ∃ e, W = over w e) => rchs_any (RbAt.ov h hW) (TabW.ov hT hW) id (by omega) (hg id) (hok id) (hcl id)); obtain ⟨ks, hks⟩ : ∃ ks, R.map (·.1) = ks := ⟨_, rfl⟩; rw [hks] at HSer hB ⊢; clear h hks hcl hT hg hok
  go_enter Tryz.func10, Tryz.ntmps10; go_wp2_with (go_at_call 31; (with_reducible refine (HSer.out _ ovA).mono ?_); rintro _ _ ⟨⟨e2, rfl⟩, v2, rfl, o2⟩; obtain ⟨a2, c2, rfl, s2⟩ := Own.slice wcs_len o2; have S2 := hid s2; clear o2 s2)
  go_loopw [3, 5] (fun v i wr => ∃ k : Nat, k ≤ ks.length ∧ i = .int .i64 (k : Nat) ∧ OwnLf (over w e2).heap.size wr v (lvs L (ks.take k)) ∧ Ov (over w e2) wr) (fun _ i _ => ks.length - (intOf i).toNat)
  case atStart => exact ⟨0, Nat.zero_le _, rfl, Own.nil _, ovA⟩
  case round =>
   obtain ⟨k, hk, rfl, hown, ⟨e3, rfl⟩⟩ := hrel; have HOW := hid hown; have hmk := len_max S2.out; by_cases hlt : k < ks.length
   · obtain ⟨sb, so, rfl, hsb, q0⟩ := SlW.at1 S2.out hlt; simp only [size_over] at hsb; have hsuc := lvs_succ L hlt; obtain ⟨id, hid0⟩ : ∃ id, ks[k]'hlt = id := ⟨_, rfl⟩; rw [hid0] at q0 hsuc; have hle := lvs_take L ks (k + 1); have hbt := hbits id; have HC := hid (HCh.out id); obtain ⟨fs, hfs⟩ : ∃ fs, frsB L id = fs := ⟨_, rfl⟩; have hlv : lvO L id = fs.map lfO := by unfold lvO; rw [hfs]
     rw [hlv] at hsuc; rw [hsuc, List.length_append, List.length_map] at hle; rw [hfs] at hbt; have HC2 : Hid (∀ W, (∃ e, W = over w e) → Calls Tryz.prog 32 #[.pointer (some ⟨p, 0, none⟩), .int .u32 (id : Nat)] W (ChsP W fs)) := hid (by rw [← hfs]; exact HC.out); obtain ⟨P, hP⟩ : ∃ P, lvs L (ks.take k) = P := ⟨_, rfl⟩; rw [hP] at HOW hsuc hle; have HSU := hid hsuc; have hd : decide (k < ks.length) = true := decide_eq_true hlt; clear hid0 hfs hlv hsuc hP HC hown hbits; go_wp2_with (go_at_call 32; (with_reducible refine (HC2.out _ ovA).mono ?_); rintro _ w8 ⟨hov8, v8, fx, rfl, hm8, hf8⟩; obtain ⟨a8, c8, rfl, s8⟩ := Own.slice Fx.cs_len hf8.row; have O8 : Hid (∃ e, w8 = over (over (over w e2) e3) e) := hid hov8; have S8 := hid s8; have HF8 := hid hf8; have HM8 := hid hm8; clear hov8 hm8 hf8 s8)
     have HFL : Hid (fx.length = fs.length) := hid (by rw [← HM8.out]; simp); have I8 : Hid (LvI (over w e2) w8 (over (over w e2) e3).heap.size u3 P w8) := hid ⟨by obtain ⟨e9, he⟩ := O8.out; rw [he]; exact HOW.out.over e9, fun g hg => .inl (Own.lt HOW.out hg).2, fun _ _ _ => rfl, Nat.le_refl _, ov_tr ovA O8.out⟩; obtain ⟨bF, hbF⟩ : ∃ n, (over (over w e2) e3).heap.size = n := ⟨_, rfl⟩; rw [hbF] at I8 HF8; have hmx := len_max S8.out; clear HOW O8 q0 hbF
     go_loopw [3, 7] (fun v i wr => ∃ j : Nat, j ≤ fx.length ∧ i = .int .i64 (j : Nat) ∧ LvI (over w e2) w8 bF v (P ++ (fs.take j).map lfO) wr) (fun _ i _ => fx.length - (intOf i).toNat)
     case atStart => exact ⟨0, Nat.zero_le _, rfl, by rw [List.take_zero, List.map_nil, List.append_nil]; exact I8.out⟩
     case round =>
      obtain ⟨j, hj, rfl, hI⟩ := hrel; obtain ⟨A, hA⟩ : ∃ A, P ++ (fs.take j).map lfO = A := ⟨_, rfl⟩; rw [hA] at hI; have HAD := hid hA; have HI := hid hI; have hFr := frs_at HF8.out hI.keep; have hown := hI.own; obtain ⟨av, cv, rfl, hsla⟩ := Own.slice Lf.cs_len hown; clear hsla; have HOW := hid hown; have hzb : (over w e2).heap.size ≤ wr.heap.size := by obtain ⟨e9, he⟩ := hI.ov; rw [he]; simp
      by_cases hj2 : j < fx.length
      · obtain ⟨a9, c9, hv9, hs9⟩ := Own.slice Fx.cs_len hFr.row
        injection hv9 with v1 v2 v3
        subst v1 v3; clear v2; obtain ⟨b8, o8, rfl, hb8', hcell⟩ := SlF.at_ hs9 hj2; have hmem : fx[j]'hj2 ∈ fx := List.getElem_mem hj2; have hbq := hFr.bits _ hmem; have hjs : j < fs.length := by rw [← HFL.out]; exact hj2
        have hqf : fs[j]'hjs = (fx[j]'hj2).f := by
         have h : fs[j]? = Option.some fx[j].f := by rw [← HM8.out]; simp [hj2]
         rw [List.getElem?_eq_getElem hjs] at h; exact Option.some.inj h
        have htk : (fs.take (j + 1)).map lfO = (fs.take j).map lfO ++ [lfO (fx[j]'hj2).f] := by
         rw [List.take_succ_eq_append_getElem hjs, List.map_append, hqf]; rfl
        have hfb := hbt _ (List.getElem_mem hjs); rw [hqf] at hfb; obtain ⟨x, hx⟩ : ∃ x, fx[j]'hj2 = x := ⟨_, rfl⟩; rw [hx] at hcell hbq htk hfb; obtain ⟨⟨sr, ⟨ch, bi, n5⟩, ct, cl, sm, bs⟩, xa, xc⟩ := x; obtain ⟨ax, cx, hxe, hxs⟩ := Own.slice (sz := 1) (cells := bcs) (fun _ => rfl) hbq; simp only [Value.slice.injEq] at hxe; obtain ⟨rfl, _, rfl⟩ := hxe; have HL := hid (fun (W : World) (hW : ∃ e, W = over wr e) => rleaf_any ⟨sr, ⟨ch, bi, n5⟩, ct, cl, sm, bs⟩ hfb xa xc W (Sl.ov hxs hW)); have z0 := hcell 0 _ rfl; have z1 := hcell 1 _ rfl; have z2 := hcell 2 _ rfl; have z3 := hcell 3 _ rfl; have z4 := hcell 4 _ rfl; have z5 := hcell 5 _ rfl; have z6 := hcell 6 _ rfl; have z7 := hcell 7 _ rfl; have z8 := hcell 8 _ rfl; have z9 := hcell 9 _ rfl; have z10 := hcell 10 _ rfl; rw [Nat.add_zero] at z0; obtain ⟨pn, hpn⟩ : ∃ n, (pack bs).length = n := ⟨_, rfl⟩; obtain ⟨bn, hbn⟩ : ∃ n, bs.length = n := ⟨_, rfl⟩; obtain ⟨r, hr⟩ : ∃ r, moreR 0 bs = r := ⟨_, rfl⟩; simp only [Fr.v, lfO, Lf.v, hpn, hbn, hr] at HL z9 z10 htk; have HTK := hid htk; have hle2 : A.length < 100000 := by rw [← hA, List.length_append, List.length_map, List.length_take]; omega
        have hd2 : decide (j < fx.length) = true := decide_eq_true hj2; clear hcell hmem hbq hqf hfb hx hxs htk hpn hbn hr hown hjs hs9 hFr hI hA
        go_wp2_with (first
          | (go_at_call 33; (with_reducible refine (HL.out _ ovA).mono ?_); rintro _ _ ⟨⟨e4, rfl⟩, rfl⟩)
          | (at_builtin; refine wpList_append' leaf_elem Lf.cs_len Lf.cs_one rfl (.tmp 28) (.tmp 34) rfl (base := (over w e2).heap.size) (v := .slice av A.length cv) (ys := A) (xs := [⟨sr, ch, ct, r⟩]) (by exact ownA HOW.out) rfl rfl (by simp only [World.size_alloc, size_over] at hzb ⊢; omega) (by (repeat with_reducible refine Sl.drew ?_); exact Sl.one_new (y := (⟨sr, ch, ct, r⟩ : Lf)) (by simp; try omega)) (by simp only [List.length_singleton]; unfold maxLen; omega) (by simp only [List.length_singleton]; omega) ?_; intro v' m6 ho2 hv2; have HI2 := hid (LvI.step HI.out ovA (chg_chg _ _ m6) ho2 hv2); clear ho2 hv2))
        go_roundw
        case rel => exact ⟨j + 1, by omega, by go_num, by rw [HTK.out, ← List.append_assoc, HAD.out]; exact HI2.out⟩
        case measure => (simp [intOf]; try omega)
      · have hA2 : A = P ++ fs.map lfO := by rw [← hA, List.take_of_length_le (show fs.length ≤ j by have := HFL.out; omega)]
        have HA2 := hid hA2; have O3 := hid HI.out.ov; have hd3 : decide (j < fx.length) = false := decide_eq_false hj2; clear hown hFr hI hA hA2; go_wp2; go_roundw
        case rel => exact ⟨k + 1, by omega, by go_num, by rw [HSU.out, ← HA2.out]; exact HOW.out, O3.out⟩
        case measure => (simp [intOf]; try omega)
   · have hown2 : OwnLf (over w e2).heap.size (over (over w e2) e3) u3 (lvs L ks) := by
      have h := hown; rw [List.take_of_length_le (by omega)] at h; exact h
     have HOW2 := hid hown2; have hd : decide (k < ks.length) = false := decide_eq_false hlt; clear hown hown2 HOW; go_wp2; go_ret
     exact ⟨_, rfl, ovA, Own.mono HOW2.out (by simp)⟩
end
section
open Go.RowKit
attribute [local go_sem] odr cdr
theorem dropW_snoc {α : Type} (p : α → Bool) (l : List α) (x : α) : (l ++ [x]).dropWhile p = if l.all p = true then (if p x = true then [] else [x]) else l.dropWhile p ++ [x] := by
 induction l with
 | nil => simp [List.dropWhile_cons]
 | cons a l ih =>
  rw [List.cons_append, List.dropWhile_cons, List.all_cons, List.dropWhile_cons]; by_cases h : p a = true
  · simp only [h, if_true, Bool.true_and]; exact ih
  · simp [h]
theorem dropW_all {α : Type} (p : α → Bool) (l : List α) (h : l.all p = true) : l.dropWhile p = [] := drop_none p (by simpa using h)
theorem FrsAt.push2 {base : Nat} {w w' : World} {v v' : Value} {l : List Fx} {x : Fx} (h : FrsAt base w v l) (hx : OwnB base w x.bv (pack x.f.bits)) (hxa : ∀ g, x.bv.ownBlock = some g → v.ownBlock ≠ some g) (hc : Chg v.ownBlock.toList w w')
    (ho : OwnF base w' v' (l ++ [x])) (hv' : v'.ownBlock = v.ownBlock ∨ ∃ g, v'.ownBlock = some g ∧ w.heap.size ≤ g) : FrsAt base w' v' (l ++ [x]) := by
  have hne : ∀ y ∈ l ++ [x], (∀ g, y.bv.ownBlock = some g → v.ownBlock ≠ some g) ∧ OwnB base w y.bv (pack y.f.bits) := by
   intro y hy; rcases List.mem_append.1 hy with hy | hy
   · exact ⟨h.apart y hy, h.bits y hy⟩
   · simp at hy; subst hy; exact ⟨hxa, hx⟩
  refine ⟨ho, fun y hy => Own.chg (hne y hy).2 hc (fun g hg hm => (hne y hy).1 g hg (by simpa using hm)), fun y hy g hg => ?_⟩; rcases hv' with hv' | ⟨g', hg', hl'⟩
  · rw [hv']; exact (hne y hy).1 g hg
  · rw [hg']; intro he; have := (Own.lt (hne y hy).2 hg).2; simp at he; omega
structure RlI (wb w8 : World) (bF : Nat) (v : Value) (acc : List Fx) (wr : World) : Prop where
 fr : FrsAt wb.heap.size wr v acc
 sep : ∀ g, v.ownBlock = some g → g < bF ∨ w8.heap.size ≤ g
 keep : ∀ i, bF ≤ i → i < w8.heap.size → wr.heap[i]? = w8.heap[i]?
 sz : w8.heap.size ≤ wr.heap.size
 ov : ∃ e, wr = over wb e
theorem RlI.stay {wb w8 wr W : World} {bF : Nat} {v : Value} {acc : List Fx} (h : RlI wb w8 bF v acc wr) (hW : ∃ e, W = over wr e) : RlI wb w8 bF v acc W := by
 have h1 : Chg [] wr W := Chg.of_ov hW []; have hz : wr.heap.size ≤ W.heap.size := by obtain ⟨e, rfl⟩ := hW; simp
 have hsz := h.sz; exact ⟨h.fr.ov hW, h.sep, fun i hi hi2 => by rw [h1.block i (by omega) (by simp)]; exact h.keep i hi hi2, by omega, ov_tr h.ov hW⟩
theorem RlI.step {wb w8 W W' : World} {bF : Nat} {v v' : Value} {acc : List Fx} {x : Fx} (h : RlI wb w8 bF v acc W) (hx : OwnB bF w8 x.bv (pack x.f.bits)) (hbF : wb.heap.size ≤ bF) (hc : Chg v.ownBlock.toList W W') (ho : OwnF wb.heap.size W' v' (acc ++ [x])) (hv : v'.ownBlock = v.ownBlock ∨ ∃ g, v'.ownBlock = some g ∧ W.heap.size ≤ g) : RlI wb w8 bF v' (acc ++ [x]) W' := by
 have hsz := h.sz; have hxW : OwnB bF W x.bv (pack x.f.bits) := Own.same hx (fun g hg => h.keep g (Own.lt hx hg).1 (Own.lt hx hg).2); refine ⟨FrsAt.push2 h.fr (hxW.mono hbF) (fun g hg he => ?_) hc ho hv, fun g hg => ?_, fun i hi hi2 => ?_, ?_, ?_⟩
 · have h1 := Own.lt hx hg; have h2 := h.sep g he; omega
 · rcases hv with hv | ⟨g', hg', hle⟩
   · exact h.sep g (by rw [← hv]; exact hg)
   · rw [hg'] at hg; injection hg with hg; subst hg; right; omega
 · have hn : i ∉ v.ownBlock.toList := fun hm => by have := h.sep i (by simpa using hm); omega
   rw [hc.block i (by omega) hn]; exact h.keep i hi hi2
 · have := hc.size; omega
 · exact Chg.ov h.ov hc (fun g hg => (Own.lt h.fr.row (by simpa using hg)).1)
theorem rlacks_any {base : Nat} {w : World} {p sz : Nat} {v : Value} {rs : List Rr} {R : List (Nat × Sr)} (h : RbAt base w p sz v rs R) (hT : TabW w) (hlen : rs.length ≤ 100000) {L : List Se} (hg : ∀ id, getS R id = getS (bkOf L) id) (hok : ∀ id, SrOk (getS (bkOf L) id)) (hcl : ∀ id, (getS (bkOf L) id).cl.length ≤ 900)
    (hbits : ∀ id, ∀ f ∈ frsB L id, f.bits.length ≤ 900000) (l : List Lf) (hll : l.length ≤ 100000) (a : Option Addr) (cap : Nat) (hs : SlL w a cap l) (hB : (lak L l (R.map (·.1))).length ≤ 100000) :
    Calls Tryz.prog 12 #[.pointer (some ⟨p, 0, none⟩), .slice a l.length cap] w (ChsP w (lak L l (R.map (·.1)))) := by
  have HSer := hid (fun (W : World) (hW : ∃ e, W = over w e) => rseries_any (RbAt.ov h hW) (by omega)); have HCh := hid (fun (id : Nat) (W : World) (hW : ∃ e, W = over w e) => rchs_any (RbAt.ov h hW) (TabW.ov hT hW) id (by omega) (hg id) (hok id) (hcl id)); have HHas := hid (fun (x : Lf) (W : World) (hW : ∃ e, W = over w e) => hasLf_any l hll x a cap W (Sl.ov hs hW)); obtain ⟨ks, hks⟩ : ∃ ks, R.map (·.1) = ks := ⟨_, rfl⟩; rw [hks] at HSer hB ⊢; obtain ⟨ln, hln⟩ : ∃ n, l.length = n := ⟨_, rfl⟩; rw [hln] at HHas; rw [hln]; clear h hks hT hg hok hs hln
  go_enter Tryz.func12, Tryz.ntmps12; go_wp2_with (go_at_call 31; (with_reducible refine (HSer.out _ ovA).mono ?_); rintro _ _ ⟨⟨e2, rfl⟩, v2, rfl, o2⟩; obtain ⟨a2, c2, rfl, s2⟩ := Own.slice wcs_len o2; have S2 := hid s2; clear o2 s2)
  go_loopw [5, 7] (fun v i wr => ∃ (k : Nat) (fx : List Fx), k ≤ ks.length ∧ i = .int .i64 (k : Nat) ∧ fx.map Fx.f = lak L l (ks.take k) ∧ FrsAt (over w e2).heap.size wr v fx ∧ Ov (over w e2) wr) (fun _ i _ => ks.length - (intOf i).toNat)
  case atStart => exact ⟨0, [], Nat.zero_le _, rfl, rfl, FrsAt.nil _ _, ovA⟩
  case round =>
   obtain ⟨k, fx, hk, rfl, hmap, hfr, hov⟩ := hrel; have O3 : Hid (∃ e, wr = over (over w e2) e) := hid hov; have HF := hid hfr; have HMAP := hid hmap; obtain ⟨av, cv, rfl, _⟩ := Own.slice Fx.cs_len hfr.row; have hmk := len_max S2.out; have hfl : fx.length ≤ 100000 := by
    have h1 := congrArg List.length hmap; rw [List.length_map] at h1; have := lak_take L l ks k; omega
   clear hfr hmap hov; by_cases hlt : k < ks.length
   · obtain ⟨sb, so, rfl, hsb, q0⟩ := SlW.at1 (Sl.ov S2.out O3.out) hlt; have hsuc := lak_succ L l hlt; have hle := lak_take L l ks (k + 1); obtain ⟨id, hid0⟩ : ∃ id, ks[k]'hlt = id := ⟨_, rfl⟩; rw [hid0] at q0 hsuc; have hbt := hbits id; have HC := hid (HCh.out id); have hfc : Hid ((frsB L id).length ≤ 901) := hid (Nat.le_trans (frs_len _ _ _) (by have := hcl id; omega)); obtain ⟨fs, hfs⟩ : ∃ fs, frsB L id = fs := ⟨_, rfl⟩; have HC2 : Hid (∀ W, (∃ e, W = over w e) → Calls Tryz.prog 32 #[.pointer (some ⟨p, 0, none⟩), .int .u32 (id : Nat)] W (ChsP W fs)) := hid (by rw [← hfs]; exact HC.out); have hlo : lakO L l id = fs.dropWhile (told l) := by unfold lakO; rw [hfs]
     rw [hlo] at hsuc; rw [hsuc, List.length_append] at hle; rw [hfs] at hbt hfc; have HSU := hid hsuc; have hd2 : decide (k < ks.length) = true := decide_eq_true hlt; clear hid0 hfs hlo hsuc HC; go_wp2_with (go_at_call 32; (with_reducible refine (HC2.out _ (by exact ov_tr ⟨e2, rfl⟩ (ovB O3.out))).mono ?_); rintro _ w8 ⟨hov8, v8, fy, rfl, hm8, hf8⟩; obtain ⟨a8, c8, rfl, s8⟩ := Own.slice Fx.cs_len hf8.row; have O8 : Hid (∃ e, w8 = over wr e) := hid (by simpa using hov8); have HF8 := hid hf8; have HM8 := hid hm8; have hmx := len_max s8; clear hov8 hm8 hf8 s8)
     have HFL : Hid (fy.length = fs.length) := hid (by rw [← HM8.out]; simp); have hfyl : fy.length ≤ 901 := by have := hfc.out; have := HFL.out; omega
     have hwr2 : (over w e2).heap.size ≤ wr.heap.size := by obtain ⟨z, hz⟩ := O3.out; rw [hz]; simp
     have hpre : ((fs.take 0).dropWhile (told l)).length ≤ 100000 := by simp
     have HPRE : Hid (∀ j, (lak L l (ks.take k)).length + ((fs.take j).dropWhile (told l)).length ≤ 100000) := hid (fun j => by
      have h1 : ((fs.take j).dropWhile (told l)).length ≤ (fs.dropWhile (told l)).length := by
       have e : fs.dropWhile (told l) = (fs.take j ++ fs.drop j).dropWhile (told l) := by rw [List.take_append_drop]
       rw [e, List.dropWhile_append]; split
       · rename_i h2
         have : (fs.take j).dropWhile (told l) = [] := by simpa using h2
         rw [this]; simp
       · simp
      omega)
     have I8 : Hid (RlI (over w e2) w8 wr.heap.size (.slice av fx.length cv) fx w8) := hid ⟨HF.out.ov O8.out, fun g hg => .inl (Own.lt HF.out.row hg).2, fun _ _ _ => rfl, Nat.le_refl _, ov_tr O3.out O8.out⟩; obtain ⟨bF, hbF⟩ : ∃ n, wr.heap.size = n := ⟨_, rfl⟩; rw [hbF] at I8 HF8 hwr2; clear hpre HF O8 hbF O3 q0 hle
     go_loopw [5, 9, 10] (fun v on i wr => ∃ (j : Nat) (fz : List Fx), j ≤ fy.length ∧ i = .int .i64 (j : Nat) ∧ on = .bool (!((fs.take j).all (told l))) ∧ fz.map Fx.f = lak L l (ks.take k) ++ (fs.take j).dropWhile (told l) ∧ RlI (over w e2) w8 bF v fz wr) (fun _ _ i _ => fy.length - (intOf i).toNat)
     case atStart => exact ⟨0, fx, Nat.zero_le _, rfl, rfl, by rw [List.take_zero, List.dropWhile_nil, List.append_nil]; exact HMAP.out, I8.out⟩
     case round =>
      obtain ⟨j, fz, hj, rfl, rfl, hmz, hI⟩ := hrel; have HI := hid hI; have HMZ := hid hmz; have hFr := frs_at HF8.out hI.keep; obtain ⟨av2, cv2, rfl, _⟩ := Own.slice Fx.cs_len hI.fr.row; have hzl : fz.length ≤ 100000 := by
       have h1 := congrArg List.length hmz; rw [List.length_map, List.length_append] at h1; have := HPRE.out j; omega
      have hovw : ∃ e, wr = over w e := ov_tr ⟨e2, rfl⟩ hI.ov; have OW := hid hovw; have hzb : (over w e2).heap.size ≤ wr.heap.size := by obtain ⟨e9, he⟩ := hI.ov; rw [he]; simp
      by_cases hj2 : j < fy.length
      · obtain ⟨a9, c9, hv9, hs9⟩ := Own.slice Fx.cs_len hFr.row
        injection hv9 with v1 v2 v3
        subst v1 v3; clear v2; obtain ⟨b8, o8, rfl, hb8', hcell⟩ := SlF.at_ hs9 hj2; have hmem : fy[j]'hj2 ∈ fy := List.getElem_mem hj2; have hbq := hFr.bits _ hmem; have hbq8 := HF8.out.bits _ hmem; have hjs : j < fs.length := by rw [← HFL.out]; exact hj2
        have hqf : fs[j]'hjs = (fy[j]'hj2).f := by
         have h : fs[j]? = Option.some fy[j].f := by rw [← HM8.out]; simp [hj2]
         rw [List.getElem?_eq_getElem hjs] at h; exact Option.some.inj h
        have hfb := hbt _ (List.getElem_mem hjs); rw [hqf] at hfb; have htk : fs.take (j + 1) = fs.take j ++ [(fy[j]'hj2).f] := by rw [List.take_succ_eq_append_getElem hjs, hqf]
        obtain ⟨x, hx⟩ : ∃ x, fy[j]'hj2 = x := ⟨_, rfl⟩; rw [hx] at hcell hbq hbq8 htk hfb; obtain ⟨A, hA⟩ : ∃ A, fs.take j = A := ⟨_, rfl⟩; rw [hA] at htk hmz HMZ ⊢; obtain ⟨B, hB⟩ : ∃ B, A.all (told l) = B := ⟨_, rfl⟩; obtain ⟨C, hC⟩ : ∃ C, told l x.f = C := ⟨_, rfl⟩; rw [hB]; have hdw := dropW_snoc (told l) A x.f; have hal : (A ++ [x.f]).all (told l) = (B && C) := by rw [List.all_append, hB]; simp [hC]
        rw [← htk] at hdw hal; rw [hB, hC] at hdw; have HDW := hid hdw; have HAL := hid hal; have HA0 := hid (fun (h : B = true) => dropW_all (told l) A (by rw [hB]; exact h)); have hC0 := hC; unfold told at hC0; obtain ⟨⟨sr, ⟨ch, bi, n5⟩, ct, cl, sm, bs⟩, xa, xc⟩ := x; obtain ⟨ax, cx, hxe, hxs⟩ := Own.slice (sz := 1) (cells := bcs) (fun _ => rfl) hbq; simp only [Value.slice.injEq] at hxe; obtain ⟨rfl, _, rfl⟩ := hxe; have HL := hid (fun (W : World) (hW : ∃ e, W = over wr e) => rleaf_any ⟨sr, ⟨ch, bi, n5⟩, ct, cl, sm, bs⟩ hfb xa xc W (Sl.ov hxs hW)); have HHx := hid (HHas.out (lfO ⟨sr, ⟨ch, bi, n5⟩, ct, cl, sm, bs⟩)); rw [hC0] at HHx; have z0 := hcell 0 _ rfl; have z1 := hcell 1 _ rfl; have z2 := hcell 2 _ rfl; have z3 := hcell 3 _ rfl; have z4 := hcell 4 _ rfl; have z5 := hcell 5 _ rfl; have z6 := hcell 6 _ rfl; have z7 := hcell 7 _ rfl; have z8 := hcell 8 _ rfl; have z9 := hcell 9 _ rfl; have z10 := hcell 10 _ rfl; rw [Nat.add_zero] at z0; have HXB : Hid (OwnB bF w8 (Fx.bv ⟨⟨sr, ⟨ch, bi, n5⟩, ct, cl, sm, bs⟩, xa, xc⟩) (pack bs)) := hid hbq8; obtain ⟨pn, hpn⟩ : ∃ n, (pack bs).length = n := ⟨_, rfl⟩; obtain ⟨bn, hbn⟩ : ∃ n, bs.length = n := ⟨_, rfl⟩; obtain ⟨r, hr⟩ : ∃ r, moreR 0 bs = r := ⟨_, rfl⟩; have HPN := hid hpn; have HBN := hid hbn; simp only [Fr.v, lfO, Lf.v, hpn, hbn, hr] at HL HHx z9 z10; have hd3 : decide (j < fy.length) = true := decide_eq_true hj2; clear hcell hmem hbq hbq8 hqf hfb hx hxs htk hpn hbn hr hjs hs9 hFr hI hA hmz hB hC hC0 hdw hal hovw; cases B with
        | true =>
         cases C with
         | true =>
          go_wp2_with (first
            | (go_at_call 33; (with_reducible refine (HL.out _ ovA).mono ?_); rintro _ _ ⟨⟨e4, rfl⟩, rfl⟩)
            | (go_at_call 36; (with_reducible refine (HHx.out _ (by exact (ovB OW.out))).mono ?_); rintro _ _ ⟨⟨e5, rfl⟩, rfl⟩))
          go_roundw
          case rel => exact ⟨j + 1, fz, by omega, by go_num, by rw [HAL.out]; rfl, by (rw [HDW.out]; have h := HMZ.out; rw [HA0.out (by simp)] at h; simpa using h), HI.out.stay ovA⟩
          case measure => (simp [intOf]; try omega)
         | false =>
          go_wp2_with (first
            | (go_at_call 33; (with_reducible refine (HL.out _ ovA).mono ?_); rintro _ _ ⟨⟨e4, rfl⟩, rfl⟩)
            | (go_at_call 36; (with_reducible refine (HHx.out _ (by exact (ovB OW.out))).mono ?_); rintro _ _ ⟨⟨e5, rfl⟩, rfl⟩)
            | (at_builtin
               refine gen_w ?_; intro W3 hW3; have O3' : Hid (∃ e, W3 = over wr e) := hid (by rw [hW3]; exact ovA); have I3 := hid (HI.out.stay O3'.out); rw [← HPN.out, ← HBN.out] at hW3; have hbw3 : (over w e2).heap.size ≤ W3.heap.size := by obtain ⟨z, hz⟩ := I3.out.ov; rw [hz]; simp
               refine wpList_append' frame_elem Fx.cs_len Fx.cs_one rfl (.tmp 43) (.tmp 48) rfl (base := (over w e2).heap.size) (v := .slice av2 fz.length cv2) (ys := fz) (xs := [(⟨⟨sr, ⟨ch, bi, n5⟩, ct, cl, sm, bs⟩, xa, xc⟩ : Fx)]) I3.out.fr.row rfl rfl hbw3 (by rw [hW3]; exact (by (repeat with_reducible refine Sl.drew ?_); exact Sl.one_new (y := (⟨⟨sr, ⟨ch, bi, n5⟩, ct, cl, sm, bs⟩, xa, xc⟩ : Fx)) (by simp; try omega))) (by simp only [List.length_singleton]; unfold maxLen; omega) (by simp only [List.length_singleton]; omega) ?_; intro v5 m5 ho5 hv5; refine gen_w ?_; intro W5 hW5; have hc5 : Chg (Value.slice av2 fz.length cv2).ownBlock.toList W3 W5 := by rw [hW5]; exact chg_chg _ _ _
               rw [← hW5] at ho5; have I5 := hid (RlI.step I3.out HXB.out hwr2 hc5 ho5 hv5); clear hW3 hW5 hc5 ho5 hv5))
          go_roundw
          case rel => exact ⟨j + 1, fz ++ [(⟨⟨sr, ⟨ch, bi, n5⟩, ct, cl, sm, bs⟩, xa, xc⟩ : Fx)], by omega, by go_num, by rw [HAL.out]; rfl, by rw [HDW.out, List.map_append, HMZ.out]; first | (simp; done) | (rw [HA0.out (by simp)]; simp; done), I5.out⟩
          case measure => (simp [intOf]; try omega)
        | false =>
         go_wp2_with (first
           | (go_at_call 33; (with_reducible refine (HL.out _ ovA).mono ?_); rintro _ _ ⟨⟨e4, rfl⟩, rfl⟩)
           | (go_at_call 36; (with_reducible refine (HHx.out _ (by exact (ovB OW.out))).mono ?_); rintro _ _ ⟨⟨e5, rfl⟩, rfl⟩)
           | (at_builtin
              refine gen_w ?_; intro W3 hW3; have O3' : Hid (∃ e, W3 = over wr e) := hid (by rw [hW3]; exact ovA); have I3 := hid (HI.out.stay O3'.out); rw [← HPN.out, ← HBN.out] at hW3; have hbw3 : (over w e2).heap.size ≤ W3.heap.size := by obtain ⟨z, hz⟩ := I3.out.ov; rw [hz]; simp
              refine wpList_append' frame_elem Fx.cs_len Fx.cs_one rfl (.tmp 43) (.tmp 48) rfl (base := (over w e2).heap.size) (v := .slice av2 fz.length cv2) (ys := fz) (xs := [(⟨⟨sr, ⟨ch, bi, n5⟩, ct, cl, sm, bs⟩, xa, xc⟩ : Fx)]) I3.out.fr.row rfl rfl hbw3 (by rw [hW3]; exact (by (repeat with_reducible refine Sl.drew ?_); exact Sl.one_new (y := (⟨⟨sr, ⟨ch, bi, n5⟩, ct, cl, sm, bs⟩, xa, xc⟩ : Fx)) (by simp; try omega))) (by simp only [List.length_singleton]; unfold maxLen; omega) (by simp only [List.length_singleton]; omega) ?_; intro v5 m5 ho5 hv5; refine gen_w ?_; intro W5 hW5; have hc5 : Chg (Value.slice av2 fz.length cv2).ownBlock.toList W3 W5 := by rw [hW5]; exact chg_chg _ _ _
              rw [← hW5] at ho5; have I5 := hid (RlI.step I3.out HXB.out hwr2 hc5 ho5 hv5); clear hW3 hW5 hc5 ho5 hv5))
         go_roundw
         case rel => exact ⟨j + 1, fz ++ [(⟨⟨sr, ⟨ch, bi, n5⟩, ct, cl, sm, bs⟩, xa, xc⟩ : Fx)], by omega, by go_num, by rw [HAL.out]; rfl, by rw [HDW.out, List.map_append, HMZ.out]; first | (simp; done) | (rw [HA0.out (by simp)]; simp; done), I5.out⟩
         case measure => (simp [intOf]; try omega)
      · have hm9 := hmz; rw [List.take_of_length_le (show fs.length ≤ j by have := HFL.out; omega), ← HSU.out] at hm9; have HM9 := hid hm9; have hd3 : decide (j < fy.length) = false := decide_eq_false hj2; clear hFr hI hmz hm9 hovw; go_wp2; go_roundw
        case rel => exact ⟨k + 1, fz, by omega, by go_num, HM9.out, HI.out.fr, HI.out.ov⟩
        case measure => (simp [intOf]; try omega)
   · obtain rfl : k = ks.length := by omega
     have hm := HMAP.out; rw [List.take_length] at hm; have HM9 := hid hm; have hd2 : decide (ks.length < ks.length) = false := decide_eq_false (by omega); clear hm; go_wp2; go_ret
     exact ⟨by exact ov_tr ⟨e2, rfl⟩ (ovB O3.out), _, fx, rfl, HM9.out, FrsAt.mono HF.out (by simp)⟩
end
end Go.Proofs.YtnffcckhdedhpaaGreatDoor
