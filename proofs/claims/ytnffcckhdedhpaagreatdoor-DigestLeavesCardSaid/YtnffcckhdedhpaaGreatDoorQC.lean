import Derived.Test.YtnffcckhdedhpaaGreatDoorGN
import Derived.Test.YtnffcckhdedhpaaGreatDoorGG
import Derived.Test.YtnffcckhdedhpaaGreatDoorNC
import Derived.Test.YtnffcckhdedhpaaGreatDoorPA
namespace Go.Proofs.YtnffcckhdedhpaaGreatDoor
set_option linter.unusedVariables false
set_option linter.unusedSimpArgs false
set_option maxRecDepth 100000
set_option maxHeartbeats 8000000
section
open Go.RowKit
theorem rput1_own (l : List Bool) (hl : l.length ≤ 900000) (v W : Nat) (hv : v < 18446744073709551616) (hW : W ≤ 64) (a : Option Addr) (cap : Nat) (w : World) (hs : SlB w a cap (pack l)) :
    Calls Tryz.prog 39 #[bv a (pack l).length cap l.length, .int .u64 (v : Nat), .int .i64 (W : Nat)] w (RbOwn w (l ++ num v W)) := by
  have HS := hid (fun W hW => rsound_any (pack l) pack_lt (pkl (by omega)) l.length (by omega) a cap W hW); rw [spk] at HS; have H3 := hid (fun W hW => rlist_any l (by omega) a cap W hW); obtain ⟨L, hL⟩ : ∃ L, l ++ num v W = L := ⟨_, rfl⟩; have hLl : L.length ≤ 1000000 := by rw [← hL, List.length_append, nml]; omega
  have HO := hid (fun a cap W hW => rof_any L hLl a cap W hW); rw [hL]; have HL := hid hL; have hw64 : decide (64 < W) = false := decide_eq_false (by omega); clear hL
  go_enter Tryz.func39, Tryz.ntmps39; go_wp2_with (first | (go_at_call 63; (with_reducible refine (HS.out _ (by exact slA hs)).mono ?_); rintro _ _ ⟨⟨e1, rfl⟩, rfl⟩) | (go_at_call 64; (with_reducible refine (H3.out _ (by exact slA hs)).mono ?_); rintro _ _ ⟨⟨e2, rfl⟩, v2, rfl, o2⟩; have HO2 := hid o2; clear o2))
  have ho2 := HO2.out; clear HO2
  go_loopw [9, 10] (fun o f wr => ∃ (k : Nat), k ≤ W ∧ f = .int .i64 ((k : Int) - 1) ∧ Ov (over ((w.alloc (.cells #[.slice a (pack l).length cap, .int .i64 l.length] 49)).alloc (.cells #[.slice none 0 0, .int .i64 0] 49)) e1) wr ∧ (over ((w.alloc (.cells #[.slice a (pack l).length cap, .int .i64 l.length] 49)).alloc (.cells #[.slice none 0 0, .int .i64 0] 49)) e1).heap.size ≤ wr.heap.size ∧ OwnT (over ((w.alloc (.cells #[.slice a (pack l).length cap, .int .i64 l.length] 49)).alloc (.cells #[.slice none 0 0, .int .i64 0] 49)) e1).heap.size wr o (l ++ num (v >>> k) (W - k))) (fun _ f _ => (intOf f + 1).toNat)
  case atStart =>
   refine ⟨W, Nat.le_refl _, rfl, ovA, by simp, ?_⟩; rw [Nat.sub_self, num_zero, List.append_nil]; exact ho2
  case round =>
   obtain ⟨k, hk, rfl, ⟨e, rfl⟩, hbs, hown⟩ := hrel; by_cases hlt : 0 < k
   · obtain ⟨k, rfl⟩ : ∃ j, k = j + 1 := ⟨k - 1, by omega⟩; have hE := bit_e v k hv; have hN := hid (num_snoc v k W hk); obtain ⟨Y, hY⟩ : ∃ Y, v.testBit k = Y := ⟨_, rfl⟩; rw [hY] at hE hN; have hYl := toNat_le1 Y; obtain ⟨XS, hXS⟩ : ∃ XS, l ++ num (v >>> (k + 1)) (W - (k + 1)) = XS := ⟨_, rfl⟩; rw [hXS] at hown; have HXS := hid hXS; have hxl : XS.length ≤ 2000000 := by rw [← hXS, List.length_append, nml]; omega
     clear hY hXS ho2; go_wp2_with (at_builtin; refine wpList_append byte_elem tcs_len tcs_one rfl (.tmp 31) (.tmp 38) rfl (B := over ((w.alloc (.cells #[.slice a (pack l).length cap, .int .i64 l.length] 49)).alloc (.cells #[.slice none 0 0, .int .i64 0] 49)) e1) (xs := [Y]) hown rfl rfl ovA ovA (by exact asA) (by exact asA) (by (repeat with_reducible refine Sl.drew ?_); exact Sl.one_new (y := Y) (by simp; try omega)) (by exact lnA) (by exact lnB) ?_; intro v' x' hown' _ _)
     go_roundw
     case rel =>
      rw [← HXS.out, List.append_assoc, hN.out] at hown'; exact ⟨k, by omega, by go_num, ovA, by simp, hown'⟩
     case measure => simp [intOf] <;> omega
   · obtain rfl : k = 0 := by omega
     rw [Nat.shiftRight_zero, Nat.sub_zero, HL.out] at hown; obtain ⟨a5, c5, rfl, s5⟩ := Own.slice tcs_len hown; clear ho2; go_wp2_with (go_at_call 65; (with_reducible refine (HO.out _ _ _ (by exact slA s5)).mono ?_); rintro _ _ ⟨⟨e6, rfl⟩, v6, rfl, a6, c6, rfl, ho6⟩)
     (try simp only [Exit.inBlock, Exit.then])
     refine bodyPost_ret (v := ?rv107) ?rh107 rfl ?rp107
     case rh107 => (simp only [results, show Tryz.f39.results = #[.cell 6 49, .tmp 7] from rfl]; go_simp; rfl)
     refine ⟨a6, c6, rfl, ovA, ?_⟩
     (repeat with_reducible refine Own.drew ?_)
     exact Own.mono (Own.ovw ho6 (by exact szA) (by exact szA)) (by exact szA)
end
section
open Go.RowKit
attribute [local go_sem] odr cdr
def RtI (w : World) (p : Nat) (L : List Bool) (wr : World) : Prop := ∃ a c, Blk wr p [.slice a (pack L).length c, .int .i64 (L.length : Nat)] 49 ∧ OwnB (p + 1) wr (.slice a (pack L).length c) (pack L) ∧ ∃ e, wr = over w e
theorem RtI.step {w W W' : World} {p : Nat} {L : List Bool} {a : Option Addr} {c : Nat} (hb : Blk W' p [.slice a (pack L).length c, .int .i64 (L.length : Nat)] 49) (ho : OwnB (p + 1) W (.slice a (pack L).length c) (pack L)) (hc : Chg [p] W W') (hw : ∃ e, W = over w e) (hp : w.heap.size ≤ p) : RtI w p L W' :=
 ⟨a, c, hb, Own.chg ho hc (fun g hg hm => by have := (Own.lt ho hg).1; simp at hm; omega), Chg.ov hw hc (by simp; exact hp)⟩
theorem OwnB.sl {base : Nat} {w : World} {a : Option Addr} {c : Nat} {l : List Nat} (h : OwnB base w (.slice a l.length c) l) : SlB w a c l := (Own.slice' bcs_len h).2
theorem rroot_any (l : List Lf) (hl : l.length ≤ 5000) (hwf : ∀ x ∈ l, x.wf) (a : Option Addr) (cap : Nat) (w : World) (hs : SlL w a cap l) :
    Calls Tryz.prog 16 #[.slice a l.length cap] w (Ret w (.int .u64 (rootS l : Nat))) := by
  have HOf := hid (fun L (hL : L.length ≤ 900000) A C W (h : SlB W A C (pack L)) => rof5_any L hL A C W h)
  go_enter Tryz.func16, Tryz.ntmps16; go_wp2
  go_loopw [4] (fun i wr => ∃ k : Nat, k ≤ l.length ∧ i = .int .i64 (k : Nat) ∧ RtI w w.heap.size (rootB (l.take k)) wr) (fun i _ => l.length - (intOf i).toNat)
  case atStart => exact ⟨0, Nat.zero_le _, rfl, by rw [show rootB (l.take 0) = [] by rw [List.take_zero]; rfl]; exact ⟨none, 0, Blk.new' rfl, Own.nil _, ovA⟩⟩
  case round =>
   obtain ⟨k, hk, rfl, hI⟩ := hrel; obtain ⟨W1, hW1⟩ : ∃ W, W = wr := ⟨_, rfl⟩; subst hW1; have hLb : (rootB (l.take k)).length ≤ 160 * l.length := by rw [rootB_len, List.length_take]; exact Nat.mul_le_mul_left _ (Nat.min_le_right _ _)
   obtain ⟨L1, hLL1⟩ : ∃ L, rootB (l.take k) = L := ⟨_, rfl⟩; rw [hLL1] at hI hLb; have I1 := hid hI; clear hI; by_cases hlt : k < l.length
   · obtain ⟨sb, so, rfl, hsb, _⟩ := SlL.at_ hs hlt; obtain ⟨F, hF⟩ : ∃ F, [w.heap.size] = F := ⟨_, rfl⟩; have HFa : Hid (w.heap.size ∈ F) := hid (by rw [← hF]; simp); have HFb : Hid (sb ∉ F) := hid (by rw [← hF]; simp; omega); clear hF; have htk := List.take_succ_eq_append_getElem hlt; have hw1 := hwf _ (List.getElem_mem hlt); obtain ⟨x, hx⟩ : ∃ x, l[k]'hlt = x := ⟨_, rfl⟩; rw [hx] at htk hw1; have hL1 : L1.length ≤ 800000 := by omega
     obtain ⟨x1, x2, x3, x4⟩ := x; have w1 : x1 < 18446744073709551616 := Nat.lt_trans hw1.1 (by decide); have w2 : x2 < 18446744073709551616 := Nat.lt_trans hw1.2.1 (by decide); have w3 : x3 < 18446744073709551616 := Nat.lt_trans hw1.2.2.1 (by decide); have w4 : x4 < 18446744073709551616 := hw1.2.2.2; have c1 : IntKind.u64.wrap (x1 : Int) = (x1 : Int) := by rw [IntKind.wrap_u64]; omega
     have c2 : IntKind.u64.wrap (x2 : Int) = (x2 : Int) := by rw [IntKind.wrap_u64]; omega
     have c3 : IntKind.u64.wrap (x3 : Int) = (x3 : Int) := by rw [IntKind.wrap_u64]; omega
     have hL1 : L1.length ≤ 900000 := by omega
     have hd : decide (k < l.length) = true := decide_eq_true hlt; clear hw1; go_wp2; obtain ⟨a1, c1, hb1, ho1, ov1⟩ := I1.out; have OV1 := hid ov1; obtain ⟨sb1, so1, hq1, hl1, ru1, rv1, rx1, ry1⟩ := SlL.at_ (Sl.ov hs ov1) hlt; obtain ⟨rfl, rfl⟩ : sb = sb1 ∧ so = so1 := by simpa using hq1
     clear hq1; rw [hx] at ru1 rv1 rx1 ry1; have HS1 := hid (OwnB.sl ho1); have bq1 := hb1.cell 0 rfl; have br1 := hb1.cell 1 rfl; have bf1 : ∀ j, W1.frozen? ⟨w.heap.size, j, none⟩ = false := fun j => hb1.free j; have bl1 := hb1.lt; have HB1 := hid hb1; have HP1 := hid (fun A C W (h : SlB W A C (pack L1)) => rput1_own L1 hL1 x1 32 w1 (by omega) A C W h); have hln1 : (L1 ++ num x1 32).length = L1.length + 32 := by rw [List.length_append, nml]
     obtain ⟨L2, hLL2⟩ : ∃ L, L1 ++ num x1 32 = L := ⟨_, rfl⟩; rw [hLL2] at HP1 hln1; have hL2 : L2.length ≤ 900000 := by omega
     obtain ⟨pn1, hpn1⟩ : ∃ n, (pack L1).length = n := ⟨_, rfl⟩; obtain ⟨bn1, hbn1⟩ : ∃ n, L1.length = n := ⟨_, rfl⟩; obtain ⟨pm1, hpm1⟩ : ∃ n, (pack L2).length = n := ⟨_, rfl⟩; obtain ⟨bm1, hbm1⟩ : ∃ n, L2.length = n := ⟨_, rfl⟩; have HPB1 : Hid (∀ W, (∃ e, W = over W1 e) → Calls Tryz.prog 39 #[.agg #[.slice a1 pn1 c1, .int .i64 (bn1 : Nat)], .int .u64 (x1 : Nat), .int .i64 32] W (fun en w' => ∃ a c, en = .returned (.tuple #[.agg #[.slice a pm1 c, .int .i64 (bm1 : Nat)], .int .i64 0]) ∧ (∃ e, w' = over W e) ∧ OwnB W.heap.size w' (.slice a pm1 c) (pack L2))) := hid (fun W h => by
      have k := HP1.out a1 c1 W (Sl.ov HS1.out h); unfold RbOwn at k; simp only [hpn1, hbn1, hpm1, hbm1] at k; exact k)
     rw [hpn1] at bq1; rw [hbn1] at br1; clear ho1 ov1 hb1 HP1 HS1; have hFa1 : w.heap.size ∈ F := HFa.out; have hFb1 : sb ∉ F := HFb.out; refine M2.wrz (fun w' => ∃ m : Mut, w' = chg F _ m) [0, 7, 11] 12 (by kernel_rfl) (by kernel_rfl) (by decide) (chg_of (Chg.refl _ _)) ?_; simp only [M2.td]; with_reducible refine M2.mle (by decide) ?_
     go_wp2_with (fail)
     refine M2.MixQ.mk (chg_of (by exact chA)) ?_; with_reducible refine M2.mlq 6 (by kernel_rfl) ?_
     simp only [M2.td]; repeat (go_big_quiet_step (fail))
     with_reducible refine wpQuiet_nil ?_
     with_reducible refine M2.mle (by decide) ?_
     go_wp2_with ((go_at_call 39; (with_reducible refine (HPB1.out _ ovA).mono ?_); rintro _ _ ⟨A1, C1, rfl, ⟨e1, rfl⟩, HO1'⟩; (try simp only [odr] at HO1'); have HO1 := hid HO1'; clear HO1'))
     refine M2.MixQ.mk (chg_of (by exact chA)) ?_; with_reducible refine M2.mlq 3 (by kernel_rfl) ?_
     simp only [M2.td]; repeat (go_big_quiet_step (fail))
     with_reducible refine wpQuiet_nil ?_
     with_reducible refine M2.mle (by decide) ?_
     go_wp2_with (fail)
     refine M2.MixQ.mk (chg_of (by exact chA)) ?_; with_reducible refine M2.mln ?_
     with_reducible refine M2.mln ?_
     refine gen_w ?_; intro W2 hW2; have I2 : Hid (RtI w w.heap.size L2 W2) := hid (by
      rw [hW2]; refine RtI.step (W := over W1 e1) (a := A1) (c := C1) ?_ ?_ (by exact chA) ?_ (Nat.le_refl _)
      · rw [hpm1, hbm1]; exact Blk.on (Blk.to (Blk.set (Blk.set HB1.out 0 _) 1 _) rfl) _
      · rw [hpm1]; exact Own.mono HO1.out (by have := bl1; simp; omega)
      · exact (ovB OV1.out))
     clear hW2 HO1 HB1 OV1 HPB1 bq1 br1 bf1 bl1 ru1 rv1 rx1 ry1 hl1 hpn1 hbn1 hpm1 hbm1; go_wp2; obtain ⟨a2, c2, hb2, ho2, ov2⟩ := I2.out; have OV2 := hid ov2; obtain ⟨sb2, so2, hq2, hl2, ru2, rv2, rx2, ry2⟩ := SlL.at_ (Sl.ov hs ov2) hlt; obtain ⟨rfl, rfl⟩ : sb = sb2 ∧ so = so2 := by simpa using hq2
     clear hq2; rw [hx] at ru2 rv2 rx2 ry2; have HS2 := hid (OwnB.sl ho2); have bq2 := hb2.cell 0 rfl; have br2 := hb2.cell 1 rfl; have bf2 : ∀ j, W2.frozen? ⟨w.heap.size, j, none⟩ = false := fun j => hb2.free j; have bl2 := hb2.lt; have HB2 := hid hb2; have HP2 := hid (fun A C W (h : SlB W A C (pack L2)) => rput1_own L2 hL2 x2 32 w2 (by omega) A C W h); have hln2 : (L2 ++ num x2 32).length = L2.length + 32 := by rw [List.length_append, nml]
     obtain ⟨L3, hLL3⟩ : ∃ L, L2 ++ num x2 32 = L := ⟨_, rfl⟩; rw [hLL3] at HP2 hln2; have hL3 : L3.length ≤ 900000 := by omega
     obtain ⟨pn2, hpn2⟩ : ∃ n, (pack L2).length = n := ⟨_, rfl⟩; obtain ⟨bn2, hbn2⟩ : ∃ n, L2.length = n := ⟨_, rfl⟩; obtain ⟨pm2, hpm2⟩ : ∃ n, (pack L3).length = n := ⟨_, rfl⟩; obtain ⟨bm2, hbm2⟩ : ∃ n, L3.length = n := ⟨_, rfl⟩; have HPB2 : Hid (∀ W, (∃ e, W = over W2 e) → Calls Tryz.prog 39 #[.agg #[.slice a2 pn2 c2, .int .i64 (bn2 : Nat)], .int .u64 (x2 : Nat), .int .i64 32] W (fun en w' => ∃ a c, en = .returned (.tuple #[.agg #[.slice a pm2 c, .int .i64 (bm2 : Nat)], .int .i64 0]) ∧ (∃ e, w' = over W e) ∧ OwnB W.heap.size w' (.slice a pm2 c) (pack L3))) := hid (fun W h => by
      have k := HP2.out a2 c2 W (Sl.ov HS2.out h); unfold RbOwn at k; simp only [hpn2, hbn2, hpm2, hbm2] at k; exact k)
     rw [hpn2] at bq2; rw [hbn2] at br2; clear ho2 ov2 hb2 HP2 HS2; have hFa2 : w.heap.size ∈ F := HFa.out; have hFb2 : sb ∉ F := HFb.out; refine M2.wrz (fun w' => ∃ m : Mut, w' = chg F _ m) [0, 7, 11] 12 (by kernel_rfl) (by kernel_rfl) (by decide) (chg_of (Chg.refl _ _)) ?_; simp only [M2.td]; with_reducible refine M2.mle (by decide) ?_
     go_wp2_with (fail)
     refine M2.MixQ.mk (chg_of (by exact chA)) ?_; with_reducible refine M2.mlq 6 (by kernel_rfl) ?_
     simp only [M2.td]; repeat (go_big_quiet_step (fail))
     with_reducible refine wpQuiet_nil ?_
     with_reducible refine M2.mle (by decide) ?_
     go_wp2_with ((go_at_call 39; (with_reducible refine (HPB2.out _ ovA).mono ?_); rintro _ _ ⟨A2, C2, rfl, ⟨e2, rfl⟩, HO2'⟩; (try simp only [odr] at HO2'); have HO2 := hid HO2'; clear HO2'))
     refine M2.MixQ.mk (chg_of (by exact chA)) ?_; with_reducible refine M2.mlq 3 (by kernel_rfl) ?_
     simp only [M2.td]; repeat (go_big_quiet_step (fail))
     with_reducible refine wpQuiet_nil ?_
     with_reducible refine M2.mle (by decide) ?_
     go_wp2_with (fail)
     refine M2.MixQ.mk (chg_of (by exact chA)) ?_; with_reducible refine M2.mln ?_
     with_reducible refine M2.mln ?_
     refine gen_w ?_; intro W3 hW3; have I3 : Hid (RtI w w.heap.size L3 W3) := hid (by
      rw [hW3]; refine RtI.step (W := over W2 e2) (a := A2) (c := C2) ?_ ?_ (by exact chA) ?_ (Nat.le_refl _)
      · rw [hpm2, hbm2]; exact Blk.on (Blk.to (Blk.set (Blk.set HB2.out 0 _) 1 _) rfl) _
      · rw [hpm2]; exact Own.mono HO2.out (by have := bl2; simp; omega)
      · exact (ovB OV2.out))
     clear hW3 HO2 HB2 OV2 HPB2 bq2 br2 bf2 bl2 ru2 rv2 rx2 ry2 hl2 hpn2 hbn2 hpm2 hbm2; go_wp2; obtain ⟨a3, c3, hb3, ho3, ov3⟩ := I3.out; have OV3 := hid ov3; obtain ⟨sb3, so3, hq3, hl3, ru3, rv3, rx3, ry3⟩ := SlL.at_ (Sl.ov hs ov3) hlt; obtain ⟨rfl, rfl⟩ : sb = sb3 ∧ so = so3 := by simpa using hq3
     clear hq3; rw [hx] at ru3 rv3 rx3 ry3; have HS3 := hid (OwnB.sl ho3); have bq3 := hb3.cell 0 rfl; have br3 := hb3.cell 1 rfl; have bf3 : ∀ j, W3.frozen? ⟨w.heap.size, j, none⟩ = false := fun j => hb3.free j; have bl3 := hb3.lt; have HB3 := hid hb3; have HP3 := hid (fun A C W (h : SlB W A C (pack L3)) => rput1_own L3 hL3 x3 32 w3 (by omega) A C W h); have hln3 : (L3 ++ num x3 32).length = L3.length + 32 := by rw [List.length_append, nml]
     obtain ⟨L4, hLL4⟩ : ∃ L, L3 ++ num x3 32 = L := ⟨_, rfl⟩; rw [hLL4] at HP3 hln3; have hL4 : L4.length ≤ 900000 := by omega
     obtain ⟨pn3, hpn3⟩ : ∃ n, (pack L3).length = n := ⟨_, rfl⟩; obtain ⟨bn3, hbn3⟩ : ∃ n, L3.length = n := ⟨_, rfl⟩; obtain ⟨pm3, hpm3⟩ : ∃ n, (pack L4).length = n := ⟨_, rfl⟩; obtain ⟨bm3, hbm3⟩ : ∃ n, L4.length = n := ⟨_, rfl⟩; have HPB3 : Hid (∀ W, (∃ e, W = over W3 e) → Calls Tryz.prog 39 #[.agg #[.slice a3 pn3 c3, .int .i64 (bn3 : Nat)], .int .u64 (x3 : Nat), .int .i64 32] W (fun en w' => ∃ a c, en = .returned (.tuple #[.agg #[.slice a pm3 c, .int .i64 (bm3 : Nat)], .int .i64 0]) ∧ (∃ e, w' = over W e) ∧ OwnB W.heap.size w' (.slice a pm3 c) (pack L4))) := hid (fun W h => by
      have k := HP3.out a3 c3 W (Sl.ov HS3.out h); unfold RbOwn at k; simp only [hpn3, hbn3, hpm3, hbm3] at k; exact k)
     rw [hpn3] at bq3; rw [hbn3] at br3; clear ho3 ov3 hb3 HP3 HS3; have hFa3 : w.heap.size ∈ F := HFa.out; have hFb3 : sb ∉ F := HFb.out; refine M2.wrz (fun w' => ∃ m : Mut, w' = chg F _ m) [0, 7, 11] 12 (by kernel_rfl) (by kernel_rfl) (by decide) (chg_of (Chg.refl _ _)) ?_; simp only [M2.td]; with_reducible refine M2.mle (by decide) ?_
     go_wp2_with (fail)
     refine M2.MixQ.mk (chg_of (by exact chA)) ?_; with_reducible refine M2.mlq 6 (by kernel_rfl) ?_
     simp only [M2.td]; repeat (go_big_quiet_step (fail))
     with_reducible refine wpQuiet_nil ?_
     with_reducible refine M2.mle (by decide) ?_
     go_wp2_with ((go_at_call 39; (with_reducible refine (HPB3.out _ ovA).mono ?_); rintro _ _ ⟨A3, C3, rfl, ⟨e3, rfl⟩, HO3'⟩; (try simp only [odr] at HO3'); have HO3 := hid HO3'; clear HO3'))
     refine M2.MixQ.mk (chg_of (by exact chA)) ?_; with_reducible refine M2.mlq 3 (by kernel_rfl) ?_
     simp only [M2.td]; repeat (go_big_quiet_step (fail))
     with_reducible refine wpQuiet_nil ?_
     with_reducible refine M2.mle (by decide) ?_
     go_wp2_with (fail)
     refine M2.MixQ.mk (chg_of (by exact chA)) ?_; with_reducible refine M2.mln ?_
     with_reducible refine M2.mln ?_
     refine gen_w ?_; intro W4 hW4; have I4 : Hid (RtI w w.heap.size L4 W4) := hid (by
      rw [hW4]; refine RtI.step (W := over W3 e3) (a := A3) (c := C3) ?_ ?_ (by exact chA) ?_ (Nat.le_refl _)
      · rw [hpm3, hbm3]; exact Blk.on (Blk.to (Blk.set (Blk.set HB3.out 0 _) 1 _) rfl) _
      · rw [hpm3]; exact Own.mono HO3.out (by have := bl3; simp; omega)
      · exact (ovB OV3.out))
     clear hW4 HO3 HB3 OV3 HPB3 bq3 br3 bf3 bl3 ru3 rv3 rx3 ry3 hl3 hpn3 hbn3 hpm3 hbm3; go_wp2; obtain ⟨a4, c4, hb4, ho4, ov4⟩ := I4.out; have OV4 := hid ov4; obtain ⟨sb4, so4, hq4, hl4, ru4, rv4, rx4, ry4⟩ := SlL.at_ (Sl.ov hs ov4) hlt; obtain ⟨rfl, rfl⟩ : sb = sb4 ∧ so = so4 := by simpa using hq4
     clear hq4; rw [hx] at ru4 rv4 rx4 ry4; have HS4 := hid (OwnB.sl ho4); have bq4 := hb4.cell 0 rfl; have br4 := hb4.cell 1 rfl; have bf4 : ∀ j, W4.frozen? ⟨w.heap.size, j, none⟩ = false := fun j => hb4.free j; have bl4 := hb4.lt; have HB4 := hid hb4; have HP4 := hid (fun A C W (h : SlB W A C (pack L4)) => rput1_own L4 hL4 x4 64 w4 (by omega) A C W h); have hln4 : (L4 ++ num x4 64).length = L4.length + 64 := by rw [List.length_append, nml]
     obtain ⟨L5, hLL5⟩ : ∃ L, L4 ++ num x4 64 = L := ⟨_, rfl⟩; rw [hLL5] at HP4 hln4; have hL5 : L5.length ≤ 900000 := by omega
     obtain ⟨pn4, hpn4⟩ : ∃ n, (pack L4).length = n := ⟨_, rfl⟩; obtain ⟨bn4, hbn4⟩ : ∃ n, L4.length = n := ⟨_, rfl⟩; obtain ⟨pm4, hpm4⟩ : ∃ n, (pack L5).length = n := ⟨_, rfl⟩; obtain ⟨bm4, hbm4⟩ : ∃ n, L5.length = n := ⟨_, rfl⟩; have HPB4 : Hid (∀ W, (∃ e, W = over W4 e) → Calls Tryz.prog 39 #[.agg #[.slice a4 pn4 c4, .int .i64 (bn4 : Nat)], .int .u64 (x4 : Nat), .int .i64 64] W (fun en w' => ∃ a c, en = .returned (.tuple #[.agg #[.slice a pm4 c, .int .i64 (bm4 : Nat)], .int .i64 0]) ∧ (∃ e, w' = over W e) ∧ OwnB W.heap.size w' (.slice a pm4 c) (pack L5))) := hid (fun W h => by
      have k := HP4.out a4 c4 W (Sl.ov HS4.out h); unfold RbOwn at k; simp only [hpn4, hbn4, hpm4, hbm4] at k; exact k)
     rw [hpn4] at bq4; rw [hbn4] at br4; clear ho4 ov4 hb4 HP4 HS4; have hFa4 : w.heap.size ∈ F := HFa.out; have hFb4 : sb ∉ F := HFb.out; refine M2.wrz (fun w' => ∃ m : Mut, w' = chg F _ m) [0, 6, 10] 11 (by kernel_rfl) (by kernel_rfl) (by decide) (chg_of (Chg.refl _ _)) ?_; simp only [M2.td]; with_reducible refine M2.mle (by decide) ?_
     go_wp2_with (fail)
     refine M2.MixQ.mk (chg_of (by exact chA)) ?_; with_reducible refine M2.mlq 5 (by kernel_rfl) ?_
     simp only [M2.td]; repeat (go_big_quiet_step (fail))
     with_reducible refine wpQuiet_nil ?_
     with_reducible refine M2.mle (by decide) ?_
     go_wp2_with ((go_at_call 39; (with_reducible refine (HPB4.out _ ovA).mono ?_); rintro _ _ ⟨A4, C4, rfl, ⟨e4, rfl⟩, HO4'⟩; (try simp only [odr] at HO4'); have HO4 := hid HO4'; clear HO4'))
     refine M2.MixQ.mk (chg_of (by exact chA)) ?_; with_reducible refine M2.mlq 3 (by kernel_rfl) ?_
     simp only [M2.td]; repeat (go_big_quiet_step (fail))
     with_reducible refine wpQuiet_nil ?_
     with_reducible refine M2.mle (by decide) ?_
     go_wp2_with (fail)
     refine M2.MixQ.mk (chg_of (by exact chA)) ?_; with_reducible refine M2.mln ?_
     with_reducible refine M2.mln ?_
     refine gen_w ?_; intro W5 hW5; have I5 : Hid (RtI w w.heap.size L5 W5) := hid (by
      rw [hW5]; refine RtI.step (W := over W4 e4) (a := A4) (c := C4) ?_ ?_ (by exact chA) ?_ (Nat.le_refl _)
      · rw [hpm4, hbm4]; exact Blk.on (Blk.to (Blk.set (Blk.set HB4.out 0 _) 1 _) rfl) _
      · rw [hpm4]; exact Own.mono HO4.out (by have := bl4; simp; omega)
      · exact (ovB OV4.out))
     clear hW5 HO4 HB4 OV4 HPB4 bq4 br4 bf4 bl4 ru4 rv4 rx4 ry4 hl4 hpn4 hbn4 hpm4 hbm4; have HR : Hid (rootB (l.take (k + 1)) = L5) := hid (by rw [htk, rootB_snoc, hLL1, ← hLL5, ← hLL4, ← hLL3, ← hLL2]; simp [leafB]); go_wp2; go_roundw
     case rel => exact ⟨k + 1, by omega, by go_num, by rw [HR.out]; exact I5.out⟩
     case measure => (simp [intOf]; try omega)
   · obtain rfl : k = l.length := by omega
     rw [List.take_length] at hLL1; obtain ⟨a1, c1, hb1, ho1, ov1⟩ := I1.out; have O1 := hid ov1; have hsl := OwnB.sl ho1; have hK := hid (fun W (h : ∃ e, W = over W1 e) => HOf.out L1 (by omega) a1 c1 W (Sl.ov hsl h)); have bq := hb1.cell 0 rfl; have br := hb1.cell 1 rfl; have bl := hb1.lt; have hd : decide (l.length < l.length) = false := decide_eq_false (by omega); have hr : moreR 0 L1 = rootS l := by rw [← hLL1]; rfl
     rw [hr] at hK; clear hb1 ho1 ov1 hsl hr hLL1 hLb; obtain ⟨pn, hpn⟩ : ∃ n, (pack L1).length = n := ⟨_, rfl⟩; obtain ⟨bn, hbn⟩ : ∃ n, L1.length = n := ⟨_, rfl⟩; rw [hpn] at bq hK; rw [hbn] at br hK; clear hpn hbn; go_wp2_with (go_at_call 40; (with_reducible refine (hK.out _ ovA).mono ?_); rintro _ _ ⟨⟨e1, rfl⟩, rfl⟩)
     go_ret
     exact ⟨(ovB O1.out), rfl⟩
end
end Go.Proofs.YtnffcckhdedhpaaGreatDoor
