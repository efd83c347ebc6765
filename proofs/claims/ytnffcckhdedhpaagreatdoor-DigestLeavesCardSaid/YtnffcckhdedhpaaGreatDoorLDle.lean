import Derived.Test.YtnffcckhdedhpaaGreatDoorQD
import Derived.Test.YtnffcckhdedhpaaGreatDoorPD
import Derived.Test.YtnffcckhdedhpaaGreatDoorKE
import Derived.Test.YtnffcckhdedhpaaGreatDoorQA
import Derived.Test.YtnffcckhdedhpaaGreatDoorQB
import Derived.Test.YtnffcckhdedhpaaGreatDoorQC
namespace Go.Proofs.YtnffcckhdedhpaaGreatDoor
set_option linter.unusedVariables false
set_option linter.unusedSimpArgs false
set_option maxRecDepth 100000
set_option maxHeartbeats 16000000
open Go.RowKit
attribute [local go_sem] odr cdr
theorem frs_same {b1 b2 : Nat} {w W : World} {v1 v2 : Value} {fx gx : List Fx} (h1 : FrsAt b1 w v1 fx) (h2 : FrsAt b2 w v2 gx) (hW : ∃ e, W = over w e) {i : Nat} (hi : i < fx.length) (hi2 : i < gx.length) (hf : fx[i].f = gx[i].f) :
    Calls Tryz.prog 13 #[fx[i].f.v fx[i].a fx[i].cap, gx[i].f.v gx[i].a gx[i].cap] W (Ret W (.bool true)) := by
  have e1 := (h1.ov hW).bits _ (List.getElem_mem hi); have e2 := (h2.ov hW).bits _ (List.getElem_mem hi2); obtain ⟨x, hx⟩ : ∃ x, fx[i]'hi = x := ⟨_, rfl⟩; obtain ⟨y, hy⟩ : ∃ y, gx[i]'hi2 = y := ⟨_, rfl⟩; rw [hx] at e1 hf ⊢; rw [hy] at e2 hf ⊢; obtain ⟨xf, xa, xc⟩ := x; obtain ⟨yf, ya, yc⟩ := y; simp only at hf; subst hf; obtain ⟨sr, ⟨ch, bi, n5⟩, ct, cl, sm, bs⟩ := xf; exact rsame7_any 0 0 sr ch bi n5 ct sm bs.length cl (pack bs) pack_lt xa ya xc yc W (OwnB.sl e1) (OwnB.sl e2)
theorem laid_cl {W : World} {base b mb sz : Nat} {L : List Se} {ops : List (Nat × Sm)} {rs : List Rs} (h : Laid W base b mb sz L (layS sz ops) rs) : ∀ id, (getS (bkOf L) id).cl.length ≤ 900 := fun id => by
 rw [h.eq]; refine getS_mem (P := fun s => s.cl.length ≤ 900) (fun y hy => ?_) (by simp [Sr.zero]) id; obtain ⟨i, hi, rfl⟩ := List.getElem_of_mem hy; have hr : i < rs.length := by rw [h.len]; exact hi
 obtain ⟨id', s', hK⟩ := h.k hr; have h1 := hK.cl; have h2 := hK.get; have h3 := (h.at_ i hr).2.1; rw [hK.nid hr] at h3; rw [h3, h.eq, getS_at h.I.ids hi] at h2; rw [h2]; omega
theorem rb_ids {W : World} {base b mb sz : Nat} {L : List Se} {ops : List (Nat × Sm)} {rs : List Rs} (h : Laid W base b mb sz L (layS sz ops) rs) {R : List (Nat × Sr)} (hR : RB (layS sz ops) R rs.length []) : R.map (·.1) = srtN (L.map (·.id)) := by
 refine sort_uniq (List.pairwise_map.2 hR.sort) (ks_up h) (fun s => ?_); rw [(srtN_perm _).mem_iff]; have hb : L.map (·.id) = (layS sz ops).map (·.1) := by
  have h1 : L.map (·.id) = (bkOf L).map (·.1) := by simp
  rw [h1, h.eq]
 rw [hb]
 constructor
 · intro hs; obtain ⟨x, hx, rfl⟩ := List.mem_map.1 hs; rcases hR.ids x hx with ⟨j, hj, _, he⟩ | h1
   · rw [he]; exact List.mem_map.2 ⟨_, List.getElem_mem hj, rfl⟩
   · simp at h1
 · intro hs; obtain ⟨y, hy, rfl⟩ := List.mem_map.1 hs; obtain ⟨j, hj, rfl⟩ := List.getElem_of_mem hy; have hg := hR.get j hj (by rw [h.len]; exact hj); have hne := (h.I.all _ (List.getElem_mem hj)).2; by_cases hx : ∃ x ∈ R, x.1 = (layS sz ops)[j].1
   · obtain ⟨x, hx, he⟩ := hx; exact List.mem_map.2 ⟨x, hx, he⟩
   · rw [getS_no (S := R) (fun x hx' he => hx ⟨x, hx', he⟩)] at hg; rw [← hg] at hne; exact absurd rfl hne
theorem digestLeaves_any (size : Int) (hz : -9223372036854775808 ≤ size ∧ size ≤ 9223372036854775807) (xs : List Opr) (hx : ∀ o ∈ xs, o.wf) (a : Option Addr) (cap : Nat) (x : List Lf) (wx : ∀ z ∈ x, z.wf) (a1 : Option Addr) (c1 : Nat) (y : List Lf) (wy : ∀ z ∈ y, z.wf) (a2 : Option Addr) (c2 : Nat) (w : World) (hT : TabW w) (hs : SlO w a cap xs) (s1 : SlL w a1 c1 x) (s2 : SlL w a2 c2 y) :
    Calls Tryz.prog 3 #[.int .i64 size, .slice a xs.length cap, .slice a1 x.length c1, .slice a2 y.length c2] w (Ret w (.bool true)) := by
  have HKn := hid (fun W (hW : TabW W) => kn26_any W hW); by_cases hl : 60 < xs.length
  · have hd : decide (60 < xs.length) = true := decide_eq_true hl; have hdi : decide ((60 : Int) < (xs.length : Int)) = true := decide_eq_true (by omega); clear hx s1 s2 wx wy
    go_enter Tryz.func3, Tryz.ntmps3; go_wp2_with (go_at_call 5; (with_reducible refine (HKn.out _ (by exact tabA hT)).mono ?_); rintro _ _ ⟨⟨e1, rfl⟩, rfl⟩)
    go_ret
    exact ⟨ovA, rfl⟩
  have hd : decide (60 < xs.length) = false := decide_eq_false hl; have hdi : decide ((60 : Int) < (xs.length : Int)) = false := decide_eq_false (by omega); by_cases hl1 : 12 < x.length
  · have hd1 : decide (12 < x.length) = true := decide_eq_true hl1; have hd1i : decide ((12 : Int) < (x.length : Int)) = true := decide_eq_true (by omega); clear hx s1 s2 wx wy
    go_enter Tryz.func3, Tryz.ntmps3; go_wp2_with (go_at_call 5; (with_reducible refine (HKn.out _ (by exact tabA hT)).mono ?_); rintro _ _ ⟨⟨e1, rfl⟩, rfl⟩)
    go_ret
    exact ⟨ovA, rfl⟩
  have hd1 : decide (12 < x.length) = false := decide_eq_false hl1; have hd1i : decide ((12 : Int) < (x.length : Int)) = false := decide_eq_false (by omega); by_cases hl2 : 12 < y.length
  · have hd2 : decide (12 < y.length) = true := decide_eq_true hl2; have hd2i : decide ((12 : Int) < (y.length : Int)) = true := decide_eq_true (by omega); clear hx s1 s2 wx wy
    go_enter Tryz.func3, Tryz.ntmps3; go_wp2_with (go_at_call 5; (with_reducible refine (HKn.out _ (by exact tabA hT)).mono ?_); rintro _ _ ⟨⟨e1, rfl⟩, rfl⟩)
    go_ret
    exact ⟨ovA, rfl⟩
  have hd2 : decide (12 < y.length) = false := decide_eq_false hl2; have hd2i : decide ((12 : Int) < (y.length : Int)) = false := decide_eq_false (by omega); have HLay := hid (fun W (h1 : TabW W) (h2 : SlO W a cap xs) => layB_any size hz xs hx (by omega) a cap W h1 h2); have hsz1 := lsz_ok size; have hsi : 1 + max size 0 % 24 = (lsz size : Int) := by
   unfold lsz; omega
  obtain ⟨sz, hsz⟩ : ∃ sz, lsz size = sz := ⟨_, rfl⟩; rw [hsz] at HLay hsz1 hsi; have HN : Hid (∀ W, Calls Tryz.prog 7 #[.int .i64 64, .int .i64 (sz : Nat)] W _) := hid (fun W => rnewb_any sz hsz1 W); have HSI := hid hsi; have hol : (opsL xs).length ≤ 60 := by simp [opsL]; omega
  obtain ⟨ops, hops⟩ : ∃ ops, opsL xs = ops := ⟨_, rfl⟩; rw [hops] at HLay hol; have HPut := hid (fun (l : List (Nat × Sm)) => lay_put (sz := sz) l); have HRise := hid (fun (l : List (Nat × Sm)) => all_rise (sz := sz) l); have HWX := hid wx; have HWY := hid wy; have HS1 := hid s1; have HS2 := hid s2; have HTw := hid hT; clear hx hsz hsi hops wx wy s1 s2
  go_enter Tryz.func3, Tryz.ntmps3
  go_wp2_with (first
    | (go_at_call 5; (with_reducible refine (HKn.out _ (by exact tabA hT)).mono ?_); rintro _ _ ⟨⟨e1, rfl⟩, rfl⟩)
    | (go_at_call 6
       (with_reducible refine (HLay.out _ (by exact tabA hT) (by exact slA hs)).mono ?_)
       rintro _ W1 ⟨b, mb, L, al, cl, rs, rfl, ⟨e1, hW1⟩, hb, he, hsl, hrows, hmap⟩; have O1 : Hid (∃ e, W1 = over w e) := hid (by rw [hW1]; exact ovA); have hLd := laid_of hsz1.1 hol hb he hmap; have HL := hid hLd; have HSL := hid hsl; have HRW := hid hrows; have hrl : rs.length ≤ 60 := by rw [hLd.len]; exact hLd.I.len
       clear hW1 hb he hmap hLd hsl hrows)
    | (rw [HSI.out]
       go_at_call 7
       (with_reducible refine (HN.out _).mono ?_)
       rintro _ W2 ⟨p, rfl, ⟨e2, hW2⟩, hrb⟩; have O2 : Hid (∃ e, W2 = over W1 e) := hid (by rw [hW2]; exact ovA); have HB0 : Hid (BothI W1 p sz (layS sz ops) 0 W2) := hid ⟨_, _, _, hrb, RB.nil _⟩; clear hW2 hrb))
  go_loopw [12, 13] (fun i _ wr => ∃ k : Nat, k ≤ rs.length ∧ i = .int .i64 (k : Nat) ∧ BothI W1 p sz (layS sz ops) k wr ∧ Ov W1 wr) (fun i _ _ => rs.length - (intOf i).toNat)
  case atStart => exact ⟨0, Nat.zero_le _, rfl, HB0.out, (ovB O2.out)⟩
  case round =>
   obtain ⟨k, hk, rfl, hB, ⟨e0, rfl⟩⟩ := hrel; have HB := hid hB; clear hB; by_cases hlt : k < rs.length
   · obtain ⟨bl, off, rfl, hbl, x0, x1⟩ := SlR.at_ HSL.out hlt; obtain ⟨h2, h3, h4⟩ := HL.out.at_ k hlt; have hrow := HRW.out _ (List.getElem_mem hlt); have hpl := HPut.out ops _ (List.getElem_mem h2); have hri := HRise.out ops _ (List.getElem_mem h2); have hal := (HL.out.I.all _ (List.getElem_mem h2)).1; rw [← h4] at hpl hri hal; have HI := HL.out.I; have hdl : decide (k < rs.length) = true := decide_eq_true hlt; obtain ⟨r, hr⟩ : ∃ r, rs[k]'hlt = r := ⟨_, rfl⟩; rw [hr] at x0 x1 h3 h4 hrow hpl hri hal; have HS := hid (BothI.start HI.ids h2 h3.symm HB.out); have HE : Hid (∀ W, BothK W1 p sz (layS sz ops) k r.id r.l W → BothI W1 p sz (layS sz ops) (k + 1) W) := hid (fun W hW => BothK.stop_ h2 h3.symm hpl hW); obtain ⟨id, hid0⟩ : ∃ id, r.id = id := ⟨_, rfl⟩; rw [hid0] at x0 h3 HS HE; have HPT : Hid (∀ (j : Nat) (hj : j < r.l.length) W, (∃ e, W = over W1 e) → BothK W1 p sz (layS sz ops) k id (r.l.take j) W → Calls Tryz.prog 8 #[.pointer (some ⟨p, 0, none⟩), .int .u32 (id : Nat), .agg #[.int .i64 r.l[j].t, .int .u64 (r.l[j].v : Nat)]] W fun en w' => en = .returned (.int .i64 0) ∧ (∃ e, w' = over W1 e) ∧ BothK W1 p sz (layS sz ops) k id (r.l.take (j + 1)) w') := hid (fun j hj W hW hK => by
      have hcl : (putL sz (r.l.take j)).cl.length ≤ 60 := by
       have h5 := putL_ne sz (r.l.take j); have h6 := cl_le2 h5; rw [putL_all] at h6; simp at h6; omega
      have := both_put (x := r.l[j]) HI.ids (by have := HL.out.len; omega) h2 h3.symm (by simp; omega) hcl (fun l' y he => by
       have hjl : l'.length + 1 = j := by have := congrArg List.length he; simp at this; omega
       have hy : r.l[l'.length]? = some y := by
        have := congrArg (fun l => l[l'.length]?) he; simp at this; rw [List.getElem?_take_of_lt (by omega)] at this; exact this
       obtain ⟨hy1, hy2⟩ := List.getElem?_eq_some_iff.1 hy; rw [← hy2]; exact (List.pairwise_iff_getElem.1 hri) _ _ hy1 hj (by omega)) hW hK
      rw [List.take_succ_eq_append_getElem hj]; exact this)
     obtain ⟨l, hll⟩ : ∃ l, r.l = l := ⟨_, rfl⟩; rw [hll] at x1 HPT HE hal; have HRO : Hid (SlM W1 r.a r.c l) := hid (by rw [← hll]; exact hrow); clear hpl hri h4 hrow hr hid0 h3 hll HI; go_wp2
     go_loopw [13] (fun j wr => ∃ m : Nat, m ≤ l.length ∧ j = .int .i64 (m : Nat) ∧ BothK W1 p sz (layS sz ops) k id (l.take m) wr ∧ Ov W1 wr) (fun j _ => l.length - (intOf j).toNat)
     case atStart => exact ⟨0, Nat.zero_le _, rfl, HS.out, ovA⟩
     case round =>
      obtain ⟨m, hm, rfl, hK, hov⟩ := hrel; have O3 : Hid (∃ e, wr = over W1 e) := hid hov; obtain ⟨e3, rfl⟩ := hov; have HK := hid hK; clear hK; by_cases hml : m < l.length
      · obtain ⟨cb, co, hca, hcb, q0, q1⟩ := SlM.at_ HRO.out hml; rw [hca] at x1; have hdm : decide (m < l.length) = true := decide_eq_true hml; have HC := hid (HPT.out m hml); obtain ⟨y, hy⟩ : ∃ y, l[m]'hml = y := ⟨_, rfl⟩; rw [hy] at HC q0 q1; clear hca hy; go_wp2; refine M2.wrm [14] 14 (by kernel_rfl) (by kernel_rfl) (by decide) ?_; simp only [M2.td]; with_reducible refine M2.mlq 14 (by kernel_rfl) ?_
        simp only [M2.td]; repeat (go_big_quiet_step (fail))
        with_reducible refine wpQuiet_nil ?_
        with_reducible refine M2.mln ?_
        with_reducible refine M2.mle (by decide) ?_
        go_wp2_with ((go_at_call 8; (with_reducible refine (HC.out _ ovA (BothK.ov HK.out ovA)).mono ?_); rintro _ W5 ⟨rfl, ho5, hk5⟩; have O5 := hid ho5; have K5 := hid hk5; clear ho5 hk5))
        refine M2.MixQ.mk trivial ?_; with_reducible refine M2.mln ?_
        go_wp2; go_roundw
        case rel => exact ⟨m + 1, by omega, by go_num, K5.out, O5.out⟩
        case measure => (simp [intOf]; try omega)
      · obtain rfl : m = l.length := by omega
        have HK2 : Hid (BothI W1 p sz (layS sz ops) (k + 1) (over W1 e3)) := hid (HE.out _ (by have := HK.out; rwa [List.take_length] at this)); go_wp2; go_roundw
        case rel => exact ⟨k + 1, by omega, by go_num, HK2.out, ovA⟩
        case measure => (simp [intOf]; try omega)
   · obtain rfl : k = rs.length := by omega
     obtain ⟨v, rr, R, hb1, hb2⟩ := HB.out; have hdl : decide (rs.length < rs.length) = false := decide_eq_false (by omega); have hR := rb_ids HL.out hb2; have hall := RB.all HL.out.I.ids HL.out.len hb2; have hrr : rr.length ≤ 60 := by have h1 := hb2.len (Nat.le_of_eq HL.out.len); have h2 := HL.out.I.len; have h3 := HL.out.len; have h4 := hb1.len; simp at h1; omega
     have hg : ∀ id, getS R id = getS (bkOf L) id := fun id => by rw [HL.out.eq]; exact hall id
     have hcl := laid_cl HL.out; have hbk := HL.out.bk; have hok : ∀ id, SrOk (getS (bkOf L) id) := fun id => getS_ok hbk id; have hbits : ∀ id, ∀ f ∈ frsB L id, f.bits.length ≤ 900000 := fun id f hf => by have := bk_bits hbk id f hf; omega
     have hLl : L.length ≤ 60 := by have h1 := HL.out.len; have h2 : L.length = (layS sz ops).length := (by rw [← HL.out.eq]; simp); omega
     have h60 := lvs_60 HL.out hsz1.1 hol; have hwX := lvs_wf hbk hcl; obtain ⟨W4, hW4⟩ : ∃ W, W = over W1 e0 := ⟨_, rfl⟩; have O4 : Hid (∃ e, W4 = over W1 e) := hid ⟨e0, hW4⟩; rw [← hW4] at hb1 ⊢; have hT4 : TabW W4 := TabW.ov HTw.out (ov_tr O1.out O4.out); have hLk0 : ∀ l : List Lf, (lak L l (srtN (L.map (·.id)))).length ≤ 60 := fun l => by
      have h1 : ∀ ids : List Nat, (lak L l ids).length ≤ (lvs L ids).length := by
       intro ids; unfold lak lvs; rw [List.length_flatMap, List.length_flatMap]
       induction ids with
       | nil => simp
       | cons i ids ih =>
        simp only [List.map_cons, List.sum_cons] at ih ⊢; have : (lakO L l i).length ≤ (lvO L i).length := by
         unfold lakO lvO; rw [List.length_map]; exact (List.dropWhile_sublist _).length_le
        omega
      have := h1 (srtN (L.map (·.id))); omega
     have HLv := hid (fun (W : World) (hW : ∃ e, W = over W4 e) => leaves_any (bk_ov hbk (ov_tr O4.out hW)) (by omega) hcl hbits (by omega)); have HRv := hid (fun (W : World) (hW : ∃ e, W = over W4 e) => rleaves_any (RbAt.ov hb1 hW) (TabW.ov hT4 hW) (by omega) hg hok hcl hbits (by rw [hR]; omega)); have HLk := hid (fun (SM : List Lf) (hSM : SM.length ≤ 100000) A C (W : World) (hW : ∃ e, W = over W4 e) (h : SlL W A C SM) => lacks_any (bk_ov hbk (ov_tr O4.out hW)) (by omega) hcl hbits SM hSM A C h (by have := hLk0 SM; omega)); have HRk := hid (fun (SM : List Lf) (hSM : SM.length ≤ 100000) A C (W : World) (hW : ∃ e, W = over W4 e) (h : SlL W A C SM) => rlacks_any (RbAt.ov hb1 hW) (TabW.ov hT4 hW) (by omega) hg hok hcl hbits SM hSM A C h (by rw [hR]; have := hLk0 SM; omega)); rw [hR] at HRv; simp only [hR] at HRk; have HLK0 := hid hLk0; obtain ⟨X, hX⟩ : ∃ X, lvs L (srtN (L.map (·.id))) = X := ⟨_, rfl⟩; rw [hX] at h60 hwX HLv HRv; obtain ⟨ks, hks⟩ : ∃ ks, srtN (L.map (·.id)) = ks := ⟨_, rfl⟩; simp only [hks] at HLk HRk HLK0; have HWX2 := hid hwX; have HT4 := hid hT4; clear hb1 hb2 hR hall hrr hg hcl hbk hok hbits hLl hwX hW4 hLk0 hX hks hT4 HB; have hX2 : (X.length : Int).tdiv 2 = ((X.length / 2 : Nat) : Int) := by rw [Int.tdiv_eq_ediv_of_nonneg (by omega)]; omega
     have hm30 : X.length / 2 ≤ 30 := by omega
     obtain ⟨m, hm⟩ : ∃ m, X.length / 2 = m := ⟨_, rfl⟩; rw [hm] at hX2 hm30; have hmX : m ≤ X.length := by omega
     have htl : (X.take m).length = m := by rw [List.length_take]; omega
     have HTL := hid htl; clear htl hm; have hlx : x.length ≤ 12 := by omega
     have hly : y.length ≤ 12 := by omega
     have HR1 := hid (fun A C (W : World) (h : SlL W A C x) => root_any x (by omega) HWX.out A C W h); have HR2 := hid (fun A C (W : World) (h : SlL W A C x) => rroot_any x (by omega) HWX.out A C W h); have HP1 := hid (fun A C A' C' (W : World) (h : SlL W A C x) (h' : SlL W A' C' y) => apart_any x y (by omega) (by omega) HWX.out HWY.out A A' C C' W h h'); have HP2 := hid (fun A C A' C' (W : World) (h : SlL W A C x) (h' : SlL W A' C' y) => rapart_any x y (by omega) (by omega) A A' C C' W h h'); have HE1 := hid (fun A C A' C' (W : World) (h : SlL W A C X) (h' : SlL W A' C' X) => sameLf_any X (by omega) A A' C C' W h h'); have hpl : (apL x y).length ≤ 24 := by rw [apL_len]; have := idsU_len x y; omega
     have HE2 := hid (fun A C A' C' (W : World) (h : SlL W A C (apL x y)) (h' : SlL W A' C' (apL x y)) => sameLf_any (apL x y) (by omega) A A' C C' W h h'); obtain ⟨PL, hPL⟩ : ∃ l, apL x y = l := ⟨_, rfl⟩; simp only [hPL] at HP1 HP2 HE2; clear hpl hPL; by_cases hX0 : 0 < X.length
     · have hd0 : decide (0 < X.length) = true := decide_eq_true hX0; have hSl : (x ++ X.take m).length ≤ 42 := by rw [List.length_append, HTL.out]; omega
       have hSw : ∀ z ∈ x ++ X.take m, z.wf := fun z hz => by
        rcases List.mem_append.1 hz with h | h
        · exact HWX.out z h
        · exact HWX2.out z (List.mem_of_mem_take h)
       obtain ⟨SM, hSM⟩ : ∃ l, x ++ X.take m = l := ⟨_, rfl⟩; rw [hSM] at hSl hSw; have HSM := hid hSM; have HSW := hid hSw; clear hSM hSw; go_wp2_with (first
       | (go_at_call 9; (with_reducible refine (HLv.out _ ovA).mono ?_); rintro _ W14 ⟨v14, rfl, ho14, o14⟩; obtain ⟨a14, c14, rfl, s14⟩ := Own.slice Lf.cs_len o14; have S14 := hid s14; have O14 := hid ho14; clear o14 s14 ho14)
       | (go_at_call 10; (with_reducible refine (HRv.out _ (ovB O14.out)).mono ?_); rintro _ W15 ⟨v15, rfl, ho15, o15⟩; obtain ⟨a15, c15, rfl, s15⟩ := Own.slice Lf.cs_len o15; have hc15 := s15.le; have hmc : m ≤ c15 := (by omega); have hcm15 := s15.max; have S15 := hid s15; have S145 := hid (Sl.ov S14.out ho15); have O15 : Hid (∃ e, W15 = over W4 e) := hid (ov_tr O14.out ho15); clear o15 s15 ho15)
       | (at_builtin
          refine gen_w ?_; intro W16 hW16; have O16 : Hid (∃ e, W16 = over W15 e) := hid (by rw [hW16]; exact ovA); refine wpList_append' leaf_elem Lf.cs_len Lf.cs_one rfl (.tmp 86) (.tmp 87) rfl (base := W15.heap.size) (v := .slice none 0 0) (ys := []) (xs := x) (Own.nil _) rfl rfl (by obtain ⟨e, he⟩ := O16.out; rw [he]; simp) (Sl.ov HS1.out (ov_tr O1.out (ov_tr O4.out (ov_tr O15.out O16.out)))) (by simp only [List.length_nil]; unfold maxLen; omega) (by simp only [List.length_nil]; omega) ?_; intro v17 m17 ho17 _; refine gen_w ?_; intro W17 hW17; have C17 : Chg [] W16 W17 := by rw [hW17]; exact chg_chg _ _ _
          rw [← hW17, List.nil_append] at ho17; have O17 : Hid (∃ e, W17 = over W15 e) := hid (Chg.ov O16.out C17 (by simp)); obtain ⟨a17, c17, rfl, s17⟩ := Own.slice Lf.cs_len ho17; have H17 := hid ho17; have S17 := hid s17; clear ho17 s17 hW16 hW17 C17 O16)
       | (at_builtin
          refine gen_w ?_; intro W18 hW18; have O178 : Hid (∃ e, W18 = over W17 e) := hid (by rw [hW18]; exact ovA); have H18 : Hid (OwnLf W15.heap.size W18 (.slice a17 x.length c17) x) := hid (by obtain ⟨e, he⟩ := O178.out; rw [he]; exact H17.out.over e); refine wpList_append' leaf_elem Lf.cs_len Lf.cs_one rfl (.tmp 92) (.tmp 97) rfl (base := W15.heap.size) (v := .slice a17 x.length c17) (ys := x) (xs := X.take m) H18.out rfl (by rw [HTL.out]; rfl) (by obtain ⟨e, he⟩ := ov_tr O17.out O178.out; rw [he]; simp) (Sl.ov (Sl.takeF (ys := X.drop m) (by rw [List.take_append_drop]; exact S15.out)) (ov_tr O17.out O178.out)) (by rw [HTL.out]; unfold maxLen; omega) (by rw [HTL.out]; omega) ?_; intro v19 m19 ho19 _; refine gen_w ?_; intro W19 hW19; have C19 : Chg (Value.slice a17 x.length c17).ownBlock.toList W18 W19 := by rw [hW19]; exact chg_chg _ _ _
          rw [← hW19, HSM.out] at ho19; have O19 : Hid (∃ e, W19 = over W15 e) := hid (Chg.ov (ov_tr O17.out O178.out) C19 (fun g hg => (Own.lt H18.out (by simpa using hg)).1)); obtain ⟨a19, c19, rfl, s19⟩ := Own.slice Lf.cs_len ho19; have S19 := hid s19; clear ho19 s19 hW18 hW19 C19 O178 H18 H17)
       | (go_at_call 11; (with_reducible refine (HLk.out SM (by omega) _ _ _ (by exact ov_tr O15.out O19.out) (by exact S19.out)).mono ?_); rintro _ W20 ⟨ho20, v20, fx, rfl, hm20, hf20⟩; obtain ⟨a20, c20, rfl, s20⟩ := Own.slice Fx.cs_len hf20.row; have O20 : Hid (∃ e, W20 = over W15 e) := hid (ov_tr O19.out ho20); have S20 : Hid (SlL W20 _ _ SM) := hid (Sl.ov S19.out ho20); have HF20 := hid hf20; have hl20 : fx.length = (lak L SM ks).length := (by rw [← hm20]; simp); have HM20 := hid hm20; have hb20 := HLK0.out SM; obtain ⟨n, hn⟩ : ∃ n, (lak L SM ks).length = n := ⟨_, rfl⟩; rw [hn] at hl20 hb20; rw [hl20]; have HLN := hid hn; have HL20 := hid hl20; clear ho20 hm20 hf20 s20 hl20 hn)
       | (go_at_call 12; (with_reducible refine (HRk.out SM (by omega) _ _ _ (by exact ov_tr O15.out O20.out) (by exact S20.out)).mono ?_); rintro _ W21 ⟨ho21, v21, gx, rfl, hm21, hf21⟩; obtain ⟨a21, c21, rfl, s21⟩ := Own.slice Fx.cs_len hf21.row; have O21 : Hid (∃ e, W21 = over W15 e) := hid (ov_tr O20.out ho21); have S21 : Hid (SlL W21 _ _ SM) := hid (Sl.ov S20.out ho21); have HF21 := hid hf21; have HG21 : Hid (FrsAt _ W21 _ fx) := hid (FrsAt.ov HF20.out ho21); have hl21 : gx.length = n := (by have h := congrArg List.length hm21; rw [List.length_map, HLN.out] at h; exact h); have HM21 := hid hm21; rw [hl21]; have HL21 := hid hl21; clear ho21 hm21 hf21 s21 hl21))
       have O421 : Hid (∃ e, W21 = over w e) := hid (ov_tr O1.out (ov_tr O4.out (ov_tr O15.out O21.out))); have T14 : Hid (SlL W21 a14 c14 X) := hid (Sl.ov S145.out O21.out); have T15 : Hid (SlL W21 a15 c15 X) := hid (Sl.ov S15.out O21.out); have TX : Hid (SlL W21 a1 c1 x) := hid (Sl.ov HS1.out O421.out); have TY : Hid (SlL W21 a2 c2 y) := hid (Sl.ov HS2.out O421.out); have SF := hid (Own.slice' Fx.cs_len HG21.out.row).2; have SG := hid (Own.slice' Fx.cs_len HF21.out.row).2; have HQ1 := hid (fun A C A' C' (W : World) (h : SlL W A C X) (h' : SlL W A' C' SM) => apart_any X SM (by omega) (by omega) HWX2.out HSW.out A A' C C' W h h'); have HQ2 := hid (fun A C A' C' (W : World) (h : SlL W A C X) (h' : SlL W A' C' SM) => rapart_any X SM (by omega) (by omega) A A' C C' W h h'); have hql : (apL X SM).length ≤ 102 := by rw [apL_len]; have := idsU_len X SM; omega
       have HE3 := hid (fun A C A' C' (W : World) (h : SlL W A C (apL X SM)) (h' : SlL W A' C' (apL X SM)) => sameLf_any (apL X SM) (by omega) A A' C C' W h h'); obtain ⟨QL, hQL⟩ : ∃ l, apL X SM = l := ⟨_, rfl⟩; simp only [hQL] at HQ1 HQ2 HE3; clear hql hQL HLk HRk HLv HRv
       go_loopw [19] (fun i wr => ∃ k : Nat, k ≤ n ∧ i = .int .i64 (k : Nat) ∧ Ov W21 wr) (fun i _ => n - (intOf i).toNat)
       case atStart => exact ⟨0, Nat.zero_le _, rfl, ovA⟩
       case round =>
        obtain ⟨k, hk, rfl, ⟨e0, rfl⟩⟩ := hrel; by_cases hlt : k < n
        · have hi1 : k < fx.length := by rw [HL20.out]; exact hlt
          have hi2 : k < gx.length := by rw [HL21.out]; exact hlt
          have hfe : (fx[k]'hi1).f = (gx[k]'hi2).f := by
           have h := congrArg (fun l => l[k]?) (HM20.out.trans HM21.out.symm); simp only [List.getElem?_map, List.getElem?_eq_getElem hi1, List.getElem?_eq_getElem hi2, Option.map_some, Option.some.injEq] at h; exact h
          have HSk := hid (fun (W : World) (hW : ∃ e, W = over W21 e) => frs_same HG21.out HF21.out hW hi1 hi2 hfe); obtain ⟨b8, o8, ha8, hb8, hcx⟩ := SlF.at_ SF.out hi1; obtain ⟨b9, o9, ha9, hb9, hcy⟩ := SlF.at_ SG.out hi2; obtain ⟨X1, hx⟩ : ∃ x, fx[k]'hi1 = x := ⟨_, rfl⟩; obtain ⟨Y1, hy⟩ : ∃ y, gx[k]'hi2 = y := ⟨_, rfl⟩; simp only [hx, hy] at HSk; rw [hx] at hcx hfe; rw [hy] at hcy hfe; obtain ⟨xf, xa, xc⟩ := X1; obtain ⟨yf, ya, yc⟩ := Y1; simp only at hfe; subst hfe; obtain ⟨sr, ⟨ch, bi, n5⟩, ct, cl, sm, bs⟩ := xf; subst ha8 ha9; have z0 := hcx 0 _ rfl; have z1 := hcx 1 _ rfl; have z2 := hcx 2 _ rfl; have z3 := hcx 3 _ rfl; have z4 := hcx 4 _ rfl; have z5 := hcx 5 _ rfl; have z6 := hcx 6 _ rfl; have z7 := hcx 7 _ rfl; have z8 := hcx 8 _ rfl; have z9 := hcx 9 _ rfl; have z10 := hcx 10 _ rfl; have y0 := hcy 0 _ rfl; have y1 := hcy 1 _ rfl; have y2 := hcy 2 _ rfl; have y3 := hcy 3 _ rfl; have y4 := hcy 4 _ rfl; have y5 := hcy 5 _ rfl; have y6 := hcy 6 _ rfl; have y7 := hcy 7 _ rfl; have y8 := hcy 8 _ rfl; have y9 := hcy 9 _ rfl; have y10 := hcy 10 _ rfl; rw [Nat.add_zero] at z0 y0; obtain ⟨pn, hpn⟩ : ∃ n, (pack bs).length = n := ⟨_, rfl⟩; obtain ⟨bn, hbn⟩ : ∃ n, bs.length = n := ⟨_, rfl⟩; simp only [Fr.v, hpn, hbn] at HSk z9 z10 y9 y10; have hdk : decide (k < n) = true := decide_eq_true hlt; clear hcx hcy hx hy hpn hbn hi1 hi2; go_wp2; refine M2.wrm [8] 10 (by kernel_rfl) (by kernel_rfl) (by decide) ?_; simp only [M2.td]; with_reducible refine M2.mlq 8 (by kernel_rfl) ?_
          simp only [M2.td]; repeat (go_big_quiet_step (fail))
          with_reducible refine wpQuiet_nil ?_
          with_reducible refine M2.mle (by decide) ?_
          go_wp2_with ((go_at_call 13; (with_reducible refine (HSk.out _ ovA).mono ?_); rintro _ _ ⟨⟨e5, rfl⟩, rfl⟩))
          refine M2.MixQ.mk ovA ?_; with_reducible refine M2.mlq 1 (by kernel_rfl) ?_
          simp only [M2.td]; repeat (go_big_quiet_step (fail))
          with_reducible refine wpQuiet_nil ?_
          with_reducible refine M2.mln ?_
          with_reducible refine M2.mln ?_
          go_wp2; go_roundw
          case rel => exact ⟨k + 1, by omega, by go_num, ovA⟩
          case measure => (simp [intOf]; try omega)
        · have hdk : decide (k < n) = false := decide_eq_false hlt
          go_wp2_with (first
            | (go_at_call 14; (with_reducible refine (HE1.out _ _ _ _ _ (by exact slA T14.out) (by exact slA T15.out)).mono ?_); rintro _ _ ⟨⟨e30, rfl⟩, rfl⟩)
            | (go_at_call 15; (with_reducible refine (HR1.out _ _ _ (by exact slA TX.out)).mono ?_); rintro _ _ ⟨⟨e31, rfl⟩, rfl⟩)
            | (go_at_call 16; (with_reducible refine (HR2.out _ _ _ (by exact slA TX.out)).mono ?_); rintro _ _ ⟨⟨e32, rfl⟩, rfl⟩)
            | (go_at_call 17; (with_reducible refine (HP1.out _ _ _ _ _ (by exact slA TX.out) (by exact slA TY.out)).mono ?_); rintro _ _ ⟨v33, rfl, ⟨e33, rfl⟩, o33⟩; obtain ⟨a33, c33, rfl, s33⟩ := Own.slice Lf.cs_len o33; have S33 := hid s33; clear o33 s33)
            | (go_at_call 18; (with_reducible refine (HP2.out _ _ _ _ _ (by exact slA TX.out) (by exact slA TY.out)).mono ?_); rintro _ _ ⟨v34, rfl, ⟨e34, rfl⟩, o34⟩; obtain ⟨a34, c34, rfl, s34⟩ := Own.slice Lf.cs_len o34; have S34 := hid s34; clear o34 s34)
            | (go_at_call 14; (with_reducible refine (HE2.out _ _ _ _ _ (by exact slA S33.out) (by exact slA S34.out)).mono ?_); rintro _ _ ⟨⟨e35, rfl⟩, rfl⟩)
            | (go_at_call 17; (with_reducible refine (HQ1.out _ _ _ _ _ (by exact slA T14.out) (by exact slA S21.out)).mono ?_); rintro _ _ ⟨v36, rfl, ⟨e36, rfl⟩, o36⟩; obtain ⟨a36, c36, rfl, s36⟩ := Own.slice Lf.cs_len o36; have S36 := hid s36; clear o36 s36)
            | (go_at_call 18; (with_reducible refine (HQ2.out _ _ _ _ _ (by exact slA T15.out) (by exact slA S21.out)).mono ?_); rintro _ _ ⟨v37, rfl, ⟨e37, rfl⟩, o37⟩; obtain ⟨a37, c37, rfl, s37⟩ := Own.slice Lf.cs_len o37; have S37 := hid s37; clear o37 s37)
            | (go_at_call 14; (with_reducible refine (HE3.out _ _ _ _ _ (by exact slA S36.out) (by exact slA S37.out)).mono ?_); rintro _ _ ⟨⟨e38, rfl⟩, rfl⟩))
          go_ret
          exact ⟨(ovB O421.out), rfl⟩
     · have hd0 : decide (0 < X.length) = false := decide_eq_false hX0; have hSl : x.length ≤ 42 := by omega
       have HSW := hid HWX.out; go_wp2_with (first
       | (go_at_call 9; (with_reducible refine (HLv.out _ ovA).mono ?_); rintro _ W14 ⟨v14, rfl, ho14, o14⟩; obtain ⟨a14, c14, rfl, s14⟩ := Own.slice Lf.cs_len o14; have S14 := hid s14; have O14 := hid ho14; clear o14 s14 ho14)
       | (go_at_call 10; (with_reducible refine (HRv.out _ (ovB O14.out)).mono ?_); rintro _ W15 ⟨v15, rfl, ho15, o15⟩; obtain ⟨a15, c15, rfl, s15⟩ := Own.slice Lf.cs_len o15; have hc15 := s15.le; have hmc : m ≤ c15 := (by omega); have hcm15 := s15.max; have S15 := hid s15; have S145 := hid (Sl.ov S14.out ho15); have O15 : Hid (∃ e, W15 = over W4 e) := hid (ov_tr O14.out ho15); clear o15 s15 ho15)
       | (at_builtin
          refine gen_w ?_; intro W16 hW16; have O16 : Hid (∃ e, W16 = over W15 e) := hid (by rw [hW16]; exact ovA); refine wpList_append' leaf_elem Lf.cs_len Lf.cs_one rfl (.tmp 86) (.tmp 87) rfl (base := W15.heap.size) (v := .slice none 0 0) (ys := []) (xs := x) (Own.nil _) rfl rfl (by obtain ⟨e, he⟩ := O16.out; rw [he]; simp) (Sl.ov HS1.out (ov_tr O1.out (ov_tr O4.out (ov_tr O15.out O16.out)))) (by simp only [List.length_nil]; unfold maxLen; omega) (by simp only [List.length_nil]; omega) ?_; intro v17 m17 ho17 _; refine gen_w ?_; intro W17 hW17; have C17 : Chg [] W16 W17 := by rw [hW17]; exact chg_chg _ _ _
          rw [← hW17, List.nil_append] at ho17; have O17 : Hid (∃ e, W17 = over W15 e) := hid (Chg.ov O16.out C17 (by simp)); obtain ⟨a17, c17, rfl, s17⟩ := Own.slice Lf.cs_len ho17; have H17 := hid ho17; have S17 := hid s17; clear ho17 s17 hW16 hW17 C17 O16)
       | (at_builtin
          refine gen_w ?_; intro W18 hW18; have O178 : Hid (∃ e, W18 = over W17 e) := hid (by rw [hW18]; exact ovA); have H18 : Hid (OwnLf W15.heap.size W18 (.slice a17 x.length c17) x) := hid (by obtain ⟨e, he⟩ := O178.out; rw [he]; exact H17.out.over e); refine wpList_append' leaf_elem Lf.cs_len Lf.cs_one rfl (.tmp 92) (.tmp 97) rfl (base := W15.heap.size) (v := .slice a17 x.length c17) (ys := x) (xs := X.take m) H18.out rfl (by rw [HTL.out]; rfl) (by obtain ⟨e, he⟩ := ov_tr O17.out O178.out; rw [he]; simp) (Sl.ov (Sl.takeF (ys := X.drop m) (by rw [List.take_append_drop]; exact S15.out)) (ov_tr O17.out O178.out)) (by rw [HTL.out]; unfold maxLen; omega) (by rw [HTL.out]; omega) ?_; intro v19 m19 ho19 _; refine gen_w ?_; intro W19 hW19; have C19 : Chg (Value.slice a17 x.length c17).ownBlock.toList W18 W19 := by rw [hW19]; exact chg_chg _ _ _
          rw [← hW19, HSM.out] at ho19; have O19 : Hid (∃ e, W19 = over W15 e) := hid (Chg.ov (ov_tr O17.out O178.out) C19 (fun g hg => (Own.lt H18.out (by simpa using hg)).1)); obtain ⟨a19, c19, rfl, s19⟩ := Own.slice Lf.cs_len ho19; have S19 := hid s19; clear ho19 s19 hW18 hW19 C19 O178 H18 H17)
       | (go_at_call 11; (with_reducible refine (HLk.out x (by omega) _ _ _ (by exact ov_tr O15.out O17.out) (by exact S17.out)).mono ?_); rintro _ W20 ⟨ho20, v20, fx, rfl, hm20, hf20⟩; obtain ⟨a20, c20, rfl, s20⟩ := Own.slice Fx.cs_len hf20.row; have O20 : Hid (∃ e, W20 = over W15 e) := hid (ov_tr O17.out ho20); have S20 : Hid (SlL W20 _ _ x) := hid (Sl.ov S17.out ho20); have HF20 := hid hf20; have hl20 : fx.length = (lak L x ks).length := (by rw [← hm20]; simp); have HM20 := hid hm20; have hb20 := HLK0.out x; obtain ⟨n, hn⟩ : ∃ n, (lak L x ks).length = n := ⟨_, rfl⟩; rw [hn] at hl20 hb20; rw [hl20]; have HLN := hid hn; have HL20 := hid hl20; clear ho20 hm20 hf20 s20 hl20 hn)
       | (go_at_call 12; (with_reducible refine (HRk.out x (by omega) _ _ _ (by exact ov_tr O15.out O20.out) (by exact S20.out)).mono ?_); rintro _ W21 ⟨ho21, v21, gx, rfl, hm21, hf21⟩; obtain ⟨a21, c21, rfl, s21⟩ := Own.slice Fx.cs_len hf21.row; have O21 : Hid (∃ e, W21 = over W15 e) := hid (ov_tr O20.out ho21); have S21 : Hid (SlL W21 _ _ x) := hid (Sl.ov S20.out ho21); have HF21 := hid hf21; have HG21 : Hid (FrsAt _ W21 _ fx) := hid (FrsAt.ov HF20.out ho21); have hl21 : gx.length = n := (by have h := congrArg List.length hm21; rw [List.length_map, HLN.out] at h; exact h); have HM21 := hid hm21; rw [hl21]; have HL21 := hid hl21; clear ho21 hm21 hf21 s21 hl21))
       have O421 : Hid (∃ e, W21 = over w e) := hid (ov_tr O1.out (ov_tr O4.out (ov_tr O15.out O21.out))); have T14 : Hid (SlL W21 a14 c14 X) := hid (Sl.ov S145.out O21.out); have T15 : Hid (SlL W21 a15 c15 X) := hid (Sl.ov S15.out O21.out); have TX : Hid (SlL W21 a1 c1 x) := hid (Sl.ov HS1.out O421.out); have TY : Hid (SlL W21 a2 c2 y) := hid (Sl.ov HS2.out O421.out); have SF := hid (Own.slice' Fx.cs_len HG21.out.row).2; have SG := hid (Own.slice' Fx.cs_len HF21.out.row).2; have HQ1 := hid (fun A C A' C' (W : World) (h : SlL W A C X) (h' : SlL W A' C' x) => apart_any X x (by omega) (by omega) HWX2.out HSW.out A A' C C' W h h'); have HQ2 := hid (fun A C A' C' (W : World) (h : SlL W A C X) (h' : SlL W A' C' x) => rapart_any X x (by omega) (by omega) A A' C C' W h h'); have hql : (apL X x).length ≤ 102 := by rw [apL_len]; have := idsU_len X x; omega
       have HE3 := hid (fun A C A' C' (W : World) (h : SlL W A C (apL X x)) (h' : SlL W A' C' (apL X x)) => sameLf_any (apL X x) (by omega) A A' C C' W h h'); obtain ⟨QL, hQL⟩ : ∃ l, apL X x = l := ⟨_, rfl⟩; simp only [hQL] at HQ1 HQ2 HE3; clear hql hQL HLk HRk HLv HRv
       go_loopw [19] (fun i wr => ∃ k : Nat, k ≤ n ∧ i = .int .i64 (k : Nat) ∧ Ov W21 wr) (fun i _ => n - (intOf i).toNat)
       case atStart => exact ⟨0, Nat.zero_le _, rfl, ovA⟩
       case round =>
        obtain ⟨k, hk, rfl, ⟨e0, rfl⟩⟩ := hrel; by_cases hlt : k < n
        · have hi1 : k < fx.length := by rw [HL20.out]; exact hlt
          have hi2 : k < gx.length := by rw [HL21.out]; exact hlt
          have hfe : (fx[k]'hi1).f = (gx[k]'hi2).f := by
           have h := congrArg (fun l => l[k]?) (HM20.out.trans HM21.out.symm); simp only [List.getElem?_map, List.getElem?_eq_getElem hi1, List.getElem?_eq_getElem hi2, Option.map_some, Option.some.injEq] at h; exact h
          have HSk := hid (fun (W : World) (hW : ∃ e, W = over W21 e) => frs_same HG21.out HF21.out hW hi1 hi2 hfe); obtain ⟨b8, o8, ha8, hb8, hcx⟩ := SlF.at_ SF.out hi1; obtain ⟨b9, o9, ha9, hb9, hcy⟩ := SlF.at_ SG.out hi2; obtain ⟨X1, hx⟩ : ∃ x, fx[k]'hi1 = x := ⟨_, rfl⟩; obtain ⟨Y1, hy⟩ : ∃ y, gx[k]'hi2 = y := ⟨_, rfl⟩; simp only [hx, hy] at HSk; rw [hx] at hcx hfe; rw [hy] at hcy hfe; obtain ⟨xf, xa, xc⟩ := X1; obtain ⟨yf, ya, yc⟩ := Y1; simp only at hfe; subst hfe; obtain ⟨sr, ⟨ch, bi, n5⟩, ct, cl, sm, bs⟩ := xf; subst ha8 ha9; have z0 := hcx 0 _ rfl; have z1 := hcx 1 _ rfl; have z2 := hcx 2 _ rfl; have z3 := hcx 3 _ rfl; have z4 := hcx 4 _ rfl; have z5 := hcx 5 _ rfl; have z6 := hcx 6 _ rfl; have z7 := hcx 7 _ rfl; have z8 := hcx 8 _ rfl; have z9 := hcx 9 _ rfl; have z10 := hcx 10 _ rfl; have y0 := hcy 0 _ rfl; have y1 := hcy 1 _ rfl; have y2 := hcy 2 _ rfl; have y3 := hcy 3 _ rfl; have y4 := hcy 4 _ rfl; have y5 := hcy 5 _ rfl; have y6 := hcy 6 _ rfl; have y7 := hcy 7 _ rfl; have y8 := hcy 8 _ rfl; have y9 := hcy 9 _ rfl; have y10 := hcy 10 _ rfl; rw [Nat.add_zero] at z0 y0; obtain ⟨pn, hpn⟩ : ∃ n, (pack bs).length = n := ⟨_, rfl⟩; obtain ⟨bn, hbn⟩ : ∃ n, bs.length = n := ⟨_, rfl⟩; simp only [Fr.v, hpn, hbn] at HSk z9 z10 y9 y10; have hdk : decide (k < n) = true := decide_eq_true hlt; clear hcx hcy hx hy hpn hbn hi1 hi2; go_wp2; refine M2.wrm [8] 10 (by kernel_rfl) (by kernel_rfl) (by decide) ?_; simp only [M2.td]; with_reducible refine M2.mlq 8 (by kernel_rfl) ?_
          simp only [M2.td]; repeat (go_big_quiet_step (fail))
          with_reducible refine wpQuiet_nil ?_
          with_reducible refine M2.mle (by decide) ?_
          go_wp2_with ((go_at_call 13; (with_reducible refine (HSk.out _ ovA).mono ?_); rintro _ _ ⟨⟨e5, rfl⟩, rfl⟩))
          refine M2.MixQ.mk ovA ?_; with_reducible refine M2.mlq 1 (by kernel_rfl) ?_
          simp only [M2.td]; repeat (go_big_quiet_step (fail))
          with_reducible refine wpQuiet_nil ?_
          with_reducible refine M2.mln ?_
          with_reducible refine M2.mln ?_
          go_wp2; go_roundw
          case rel => exact ⟨k + 1, by omega, by go_num, ovA⟩
          case measure => (simp [intOf]; try omega)
        · have hdk : decide (k < n) = false := decide_eq_false hlt
          go_wp2_with (first
            | (go_at_call 14; (with_reducible refine (HE1.out _ _ _ _ _ (by exact slA T14.out) (by exact slA T15.out)).mono ?_); rintro _ _ ⟨⟨e30, rfl⟩, rfl⟩)
            | (go_at_call 15; (with_reducible refine (HR1.out _ _ _ (by exact slA TX.out)).mono ?_); rintro _ _ ⟨⟨e31, rfl⟩, rfl⟩)
            | (go_at_call 16; (with_reducible refine (HR2.out _ _ _ (by exact slA TX.out)).mono ?_); rintro _ _ ⟨⟨e32, rfl⟩, rfl⟩)
            | (go_at_call 17; (with_reducible refine (HP1.out _ _ _ _ _ (by exact slA TX.out) (by exact slA TY.out)).mono ?_); rintro _ _ ⟨v33, rfl, ⟨e33, rfl⟩, o33⟩; obtain ⟨a33, c33, rfl, s33⟩ := Own.slice Lf.cs_len o33; have S33 := hid s33; clear o33 s33)
            | (go_at_call 18; (with_reducible refine (HP2.out _ _ _ _ _ (by exact slA TX.out) (by exact slA TY.out)).mono ?_); rintro _ _ ⟨v34, rfl, ⟨e34, rfl⟩, o34⟩; obtain ⟨a34, c34, rfl, s34⟩ := Own.slice Lf.cs_len o34; have S34 := hid s34; clear o34 s34)
            | (go_at_call 14; (with_reducible refine (HE2.out _ _ _ _ _ (by exact slA S33.out) (by exact slA S34.out)).mono ?_); rintro _ _ ⟨⟨e35, rfl⟩, rfl⟩)
            | (go_at_call 17; (with_reducible refine (HQ1.out _ _ _ _ _ (by exact slA T14.out) (by exact slA S21.out)).mono ?_); rintro _ _ ⟨v36, rfl, ⟨e36, rfl⟩, o36⟩; obtain ⟨a36, c36, rfl, s36⟩ := Own.slice Lf.cs_len o36; have S36 := hid s36; clear o36 s36)
            | (go_at_call 18; (with_reducible refine (HQ2.out _ _ _ _ _ (by exact slA T15.out) (by exact slA S21.out)).mono ?_); rintro _ _ ⟨v37, rfl, ⟨e37, rfl⟩, o37⟩; obtain ⟨a37, c37, rfl, s37⟩ := Own.slice Lf.cs_len o37; have S37 := hid s37; clear o37 s37)
            | (go_at_call 14; (with_reducible refine (HE3.out _ _ _ _ _ (by exact slA S36.out) (by exact slA S37.out)).mono ?_); rintro _ _ ⟨⟨e38, rfl⟩, rfl⟩))
          go_ret
          exact ⟨(ovB O421.out), rfl⟩
end Go.Proofs.YtnffcckhdedhpaaGreatDoor
