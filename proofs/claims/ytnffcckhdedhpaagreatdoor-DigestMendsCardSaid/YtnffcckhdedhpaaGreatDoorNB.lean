import Derived.Test.YtnffcckhdedhpaaGreatDoorXorR
namespace Go.Proofs.YtnffcckhdedhpaaGreatDoor
set_option linter.unusedVariables false
set_option linter.unusedSimpArgs false
set_option maxRecDepth 100000
set_option maxHeartbeats 4000000
section
open Go.RowKit
attribute [local go_sem] odr cdr setCell_chg
def DfPost (w : World) (p : Nat) (a : Option Addr) (cap : Nat) (l : List Bool) (d lead size : Nat) (fr : Bool) (n : Int) (e : Nat) (en : Ending) (w' : World) : Prop :=
 en = .returned (.tuple #[.int .u64 (d : Nat), bandV lead size, .bool fr]) ∧ ∃ m at', w' = chg [p] w m ∧ RdAt w' p a cap l at' e ∧ (e = 0 → at' = n)
theorem DfPost.mk {w w' : World} {p : Nat} {a : Option Addr} {cap : Nat} {l : List Bool} {d lead size : Nat} {fr : Bool} {n at' : Int} {e : Nat} (hc : Chg [p] w w') (hB : RdAt w' p a cap l at' e) (h : e = 0 → at' = n) {v : Value} (hv : v = .tuple #[.int .u64 (d : Nat), bandV lead size, .bool fr]) : DfPost w p a cap l d lead size fr n e (.returned v) w' := by
 obtain ⟨m, hm⟩ := chg_of hc; subst hv; exact ⟨rfl, m, at', hm, hB, h⟩
abbrev TK (l : List Bool) (a : Option Addr) (cap p : Nat) (at_ : Int) (W : Int) (v : Nat) (n : Int) (e : Nat) : Prop :=
 ∀ w, SlB w a cap (pack l) → RdAt w p a cap l at_ 0 → Calls Tryz.prog 146 #[.pointer (some ⟨p, 0, none⟩), .int .i64 W] w (TkPost w p a cap l v n e)
theorem tk_of {l : List Bool} (hl : l.length ≤ 900000) (a : Option Addr) (cap p : Nat) {at_ : Int} (hat : -9223372036854775808 ≤ at_ ∧ at_ ≤ 9223372036854775807) {W : Nat} (hW : W ≤ 64) {v e : Nat} (h : getN l at_ W = (v, e)) : TK l a cap p at_ W v (at_ + W) e := fun w hb hr => by
 have := take_ok w p a cap l hl hb at_ hat hr W hW; rw [h] at this; exact this
theorem df_1 (w : World) (p : Nat) (a : Option Addr) (cap : Nat) (l : List Bool) (hsl : ∀ w', Chg [p] w w' → SlB w' a cap (pack l)) (at_ : Int) (h : RdAt w p a cap l at_ 0) (s : Vl) (hs : s.wf) (hl1 : s.lead ≤ 31) (hl2 : s.lead + s.width ≤ 64)
    (n : Int) (e : Nat) (hd : TK l a cap p at_ 1 0 n e) :
    Calls Tryz.prog 148 #[.pointer (some ⟨p, 0, none⟩), s.v] w (DfPost w p a cap l 0 s.lead s.width false n e) := by
  obtain ⟨has, prev, lead, width⟩ := s; obtain ⟨hs1, hs2, hs3⟩ := hs; simp only at hs1 hs2 hs3 hl1 hl2 hd ⊢; have HO := hid (fun W => of_any ⟨has, prev, lead, width⟩ ⟨hs1, hs2, hs3⟩ W); have HD := hid (fun W => down_any lead width (by omega) (by omega) W); have HT := hid hd; have hp := h.lt; have H := hid h; clear h
  go_enter Tryz.func148, Tryz.ntmps148; go_wp2_with (first | (go_at_call 129; (with_reducible refine (HO.out _).mono ?_); rintro _ _ ⟨⟨e1, rfl⟩, rfl⟩) | (go_at_call 146; (with_reducible refine (HT.out _ (hsl _ (by exact chA)) (by exact rdA H.out)).mono ?_); rintro _ _ ⟨rfl, m2, at2, rfl, hb2, hz⟩; have H2 := hid hb2; have HZ := hid hz; clear hb2 hz))
  obtain ⟨F, hF⟩ : ∃ F, F = [p, w.heap.size + 1] := ⟨_, rfl⟩; have n1 : w.heap.size + 1 ∈ F := by rw [hF]; simp
  have n2 : p ∈ F := by rw [hF]; simp
  have n5 : ¬ (w.heap.size + 1 = p) := by omega
  have n6 : ¬ (w.heap.size = p) := by omega
  have n3 : w.heap.size + 1 + 1 + e1.heap.size ∉ F := by rw [hF]; simp; omega
  have n4 : ¬ (w.heap.size + 1 + 1 + e1.heap.size = p) := by omega
  clear hF; refine M2.wrz (fun w' => ∃ m : Mut, w' = chg F _ m) [2] 4 (by kernel_rfl) (by kernel_rfl) (by decide) (chg_of (Chg.refl _ _)) ?_; simp only [M2.td]; with_reducible refine M2.mlq 2 (by kernel_rfl) ?_
  simp only [M2.td]; repeat (go_big_quiet_step (fail))
  with_reducible refine wpQuiet_nil ?_
  with_reducible refine M2.mixL_eff (by decide) ?_
  go_wp2_with (fail)
  refine M2.MixQ.mk (chg_of (by exact chA)) ?_; with_reducible refine M2.mlq 1 (by kernel_rfl) ?_
  simp only [M2.td]; repeat (go_big_quiet_step (fail))
  with_reducible refine wpQuiet_nil ?_
  with_reducible refine M2.mln ?_
  with_reducible refine M2.mln ?_
  go_wp2
  (try simp only [Exit.inBlock, Exit.then])
  refine bodyPost_ret (v := ?rv31) ?rh31 rfl ?rp31
  case rh31 => (simp only [results, show Tryz.f148.results = #[.tmp 4, .cell 5 227, .tmp 6] from rfl]; go_simp; rfl)
  refine DfPost.mk (Chg.drew ?_) (Blk.drew (blk_swap H2.out (by exact szA) (by exact szA) (by exact szA))) HZ.out rfl; exact Chg.in_ (by exact chA) _ (fun i hi => .inl hi)
theorem df_2 (w : World) (p : Nat) (a : Option Addr) (cap : Nat) (l : List Bool) (hsl : ∀ w', Chg [p] w w' → SlB w' a cap (pack l)) (at_ : Int) (h : RdAt w p a cap l at_ 0) (s : Vl) (hs : s.wf) (hl1 : s.lead ≤ 31) (hl2 : s.lead + s.width ≤ 64)
    (n1 n2 n : Int) (d e : Nat) (hd : TK l a cap p at_ 1 1 n1 0) (hd2 : TK l a cap p n1 1 0 n2 0) (hd3 : TK l a cap p n2 s.width d n e) :
    Calls Tryz.prog 148 #[.pointer (some ⟨p, 0, none⟩), s.v] w (DfPost w p a cap l (d <<< (64 - s.lead - s.width) % 18446744073709551616) s.lead s.width false n e) := by
  obtain ⟨has, prev, lead, width⟩ := s; obtain ⟨hs1, hs2, hs3⟩ := hs; simp only at hs1 hs2 hs3 hl1 hl2 hd ⊢; have HO := hid (fun W => of_any ⟨has, prev, lead, width⟩ ⟨hs1, hs2, hs3⟩ W); have HD := hid (fun W => down_any lead width (by omega) (by omega) W); have HT1 := hid hd; have HT2 := hid hd2; have HT3 := hid hd3; have hp := h.lt; have H := hid h; have hsx := shx d (64 - lead - width); obtain ⟨D, hD⟩ : ∃ D, d <<< (64 - lead - width) % 18446744073709551616 = D := ⟨_, rfl⟩; rw [hD] at hsx ⊢; clear h hd hd2 hd3 hD
  go_enter Tryz.func148, Tryz.ntmps148; go_wp2_with (first | (go_at_call 129; (with_reducible refine (HO.out _).mono ?_); rintro _ _ ⟨⟨e1, rfl⟩, rfl⟩) | (go_at_call 146; (with_reducible refine (HT1.out _ (hsl _ (by exact chA)) (by exact rdA H.out)).mono ?_); rintro _ _ ⟨rfl, m2, at2, rfl, hb2, hz⟩; obtain rfl := hz rfl; have H2 : Hid (RdAt _ _ _ _ _ _ 0) := hid hb2; clear hb2 hz HT1) | (go_at_call 146; (with_reducible refine (HT2.out _ (hsl _ (by exact chA)) (by exact rdA H2.out)).mono ?_); rintro _ _ ⟨rfl, m3, at3, rfl, hb3, hz⟩; obtain rfl := hz rfl; have H3 : Hid (RdAt _ _ _ _ _ _ 0) := hid hb3; clear hb3 hz HT2))
  obtain ⟨F, hF⟩ : ∃ F, F = [p, w.heap.size + 1] := ⟨_, rfl⟩; have n1 : w.heap.size + 1 ∈ F := by rw [hF]; simp
  have n2 : p ∈ F := by rw [hF]; simp
  have n5 : ¬ (w.heap.size + 1 = p) := by omega
  have n6 : ¬ (w.heap.size = p) := by omega
  have n3 : w.heap.size + 1 + 1 + e1.heap.size ∉ F := by rw [hF]; simp; omega
  have n4 : ¬ (w.heap.size + 1 + 1 + e1.heap.size = p) := by omega
  clear hF; refine M2.wrz (fun w' => ∃ m : Mut, w' = chg F _ m) [3, 5, 9] 11 (by kernel_rfl) (by kernel_rfl) (by decide) (chg_of (Chg.refl _ _)) ?_; simp only [M2.td]; with_reducible refine M2.mlq 3 (by kernel_rfl) ?_
  simp only [M2.td]; repeat (go_big_quiet_step (fail))
  with_reducible refine wpQuiet_nil ?_
  with_reducible refine M2.mixL_eff (by decide) ?_
  go_wp2_with ((go_at_call 146; (with_reducible refine (HT3.out _ (hsl _ (by exact chA)) (by exact rdA H3.out)).mono ?_); rintro _ _ ⟨rfl, m4, at4, rfl, hb4, hz⟩; have H4 := hid hb4; have HZ := hid hz; clear hb4 hz HT3))
  refine M2.MixQ.mk (chg_of (by exact chA)) ?_; with_reducible refine M2.mlq 1 (by kernel_rfl) ?_
  simp only [M2.td]; repeat (go_big_quiet_step (fail))
  with_reducible refine wpQuiet_nil ?_
  with_reducible refine M2.mixL_eff (by decide) ?_
  go_wp2_with ((go_at_call 131; (with_reducible refine (HD.out _).mono ?_); rintro _ _ ⟨⟨e2, rfl⟩, rfl⟩))
  refine M2.MixQ.mk (chg_of (by exact chA)) ?_; with_reducible refine M2.mlq 3 (by kernel_rfl) ?_
  simp only [M2.td]; repeat (go_big_quiet_step (fail))
  with_reducible refine wpQuiet_nil ?_
  with_reducible refine M2.mixL_eff (by decide) ?_
  go_wp2_with (fail)
  refine M2.MixQ.mk (chg_of (by exact chA)) ?_; with_reducible refine M2.mlq 1 (by kernel_rfl) ?_
  simp only [M2.td]; repeat (go_big_quiet_step (fail))
  with_reducible refine wpQuiet_nil ?_
  with_reducible refine M2.mln ?_
  with_reducible refine M2.mln ?_
  go_wp2
  (try simp only [Exit.inBlock, Exit.then])
  refine bodyPost_ret (v := ?rv32) ?rh32 rfl ?rp32
  case rh32 => (simp only [results, show Tryz.f148.results = #[.tmp 4, .cell 5 227, .tmp 6] from rfl]; go_simp; rfl)
  exact DfPost.mk (by exact chA) (Blk.on (blk_swap H4.out (by exact szA) (by exact szA) (by exact szA)) _) HZ.out rfl
theorem df_2e (w : World) (p : Nat) (a : Option Addr) (cap : Nat) (l : List Bool) (hsl : ∀ w', Chg [p] w w' → SlB w' a cap (pack l)) (at_ : Int) (h : RdAt w p a cap l at_ 0) (s : Vl) (hs : s.wf) (hl1 : s.lead ≤ 31) (hl2 : s.lead + s.width ≤ 64)
    (n1 n : Int) (e : Nat) (he : e ≠ 0) (hd : TK l a cap p at_ 1 1 n1 0) (hd2 : TK l a cap p n1 1 0 n e) :
    Calls Tryz.prog 148 #[.pointer (some ⟨p, 0, none⟩), s.v] w (DfPost w p a cap l 0 s.lead s.width false n e) := by
  obtain ⟨has, prev, lead, width⟩ := s; obtain ⟨hs1, hs2, hs3⟩ := hs; simp only at hs1 hs2 hs3 hl1 hl2 hd ⊢; have HO := hid (fun W => of_any ⟨has, prev, lead, width⟩ ⟨hs1, hs2, hs3⟩ W); have HD := hid (fun W => down_any lead width (by omega) (by omega) W); have HT1 := hid hd; have HT2 := hid hd2; have hp := h.lt; have H := hid h; clear h hd hd2
  go_enter Tryz.func148, Tryz.ntmps148; go_wp2_with (first | (go_at_call 129; (with_reducible refine (HO.out _).mono ?_); rintro _ _ ⟨⟨e1, rfl⟩, rfl⟩) | (go_at_call 146; (with_reducible refine (HT1.out _ (hsl _ (by exact chA)) (by exact rdA H.out)).mono ?_); rintro _ _ ⟨rfl, m2, at2, rfl, hb2, hz⟩; obtain rfl := hz rfl; have H2 : Hid (RdAt _ _ _ _ _ _ 0) := hid hb2; clear hb2 hz HT1) | (go_at_call 146; (with_reducible refine (HT2.out _ (hsl _ (by exact chA)) (by exact rdA H2.out)).mono ?_); rintro _ _ ⟨rfl, m3, at3, rfl, hb3, hz⟩; have H3 := hid hb3; have HZ := hid hz; clear hb3 hz HT2))
  obtain ⟨F, hF⟩ : ∃ F, F = [p, w.heap.size + 1] := ⟨_, rfl⟩; have n1 : w.heap.size + 1 ∈ F := by rw [hF]; simp
  have n2 : p ∈ F := by rw [hF]; simp
  have n5 : ¬ (w.heap.size + 1 = p) := by omega
  have n6 : ¬ (w.heap.size = p) := by omega
  have n3 : w.heap.size + 1 + 1 + e1.heap.size ∉ F := by rw [hF]; simp; omega
  have n4 : ¬ (w.heap.size + 1 + 1 + e1.heap.size = p) := by omega
  clear hF; refine M2.wrz (fun w' => ∃ m : Mut, w' = chg F _ m) [3, 5, 9] 11 (by kernel_rfl) (by kernel_rfl) (by decide) (chg_of (Chg.refl _ _)) ?_; simp only [M2.td]; with_reducible refine M2.mlq 3 (by kernel_rfl) ?_
  simp only [M2.td]; repeat (go_big_quiet_step (fail))
  with_reducible refine wpQuiet_nil ?_
  with_reducible refine M2.mixL_eff (by decide) ?_
  go_wp2_with ((go_at_call 146; (with_reducible refine (take_err _ p a cap l at3 e he (by exact rdA H3.out) _).mono ?_); rintro _ _ ⟨⟨e3, rfl⟩, rfl⟩))
  refine M2.MixQ.mk (chg_of (by exact chA)) ?_; with_reducible refine M2.mlq 1 (by kernel_rfl) ?_
  simp only [M2.td]; repeat (go_big_quiet_step (fail))
  with_reducible refine wpQuiet_nil ?_
  with_reducible refine M2.mixL_eff (by decide) ?_
  go_wp2_with ((go_at_call 131; (with_reducible refine (HD.out _).mono ?_); rintro _ _ ⟨⟨e2, rfl⟩, rfl⟩))
  refine M2.MixQ.mk (chg_of (by exact chA)) ?_; with_reducible refine M2.mlq 3 (by kernel_rfl) ?_
  simp only [M2.td]; repeat (go_big_quiet_step (fail))
  with_reducible refine wpQuiet_nil ?_
  with_reducible refine M2.mixL_eff (by decide) ?_
  go_wp2_with (fail)
  refine M2.MixQ.mk (chg_of (by exact chA)) ?_; with_reducible refine M2.mlq 1 (by kernel_rfl) ?_
  simp only [M2.td]; repeat (go_big_quiet_step (fail))
  with_reducible refine wpQuiet_nil ?_
  with_reducible refine M2.mln ?_
  with_reducible refine M2.mln ?_
  go_wp2
  (try simp only [Exit.inBlock, Exit.then])
  refine bodyPost_ret (v := ?rv33) ?rh33 rfl ?rp33
  case rh33 => (simp only [results, show Tryz.f148.results = #[.tmp 4, .cell 5 227, .tmp 6] from rfl]; go_simp; rfl)
  exact DfPost.mk (by exact chA) (Blk.on (Blk.on (blk_swap H3.out (by exact szA) (by exact szA) (by exact szA)) _) _) HZ.out rfl
end
section
open Go.RowKit
attribute [local go_sem] odr cdr
theorem df_3e (w : World) (p : Nat) (a : Option Addr) (cap : Nat) (l : List Bool) (hsl : ∀ w', Chg [p] w w' → SlB w' a cap (pack l)) (at_ : Int) (h : RdAt w p a cap l at_ 0) (s : Vl) (hs : s.wf)
    (n1 n2 n : Int) (e : Nat) (he : e ≠ 0) (hd : TK l a cap p at_ 1 1 n1 0) (hd2 : TK l a cap p n1 1 1 n2 0) (hd3 : TK l a cap p n2 5 0 n e) :
    Calls Tryz.prog 148 #[.pointer (some ⟨p, 0, none⟩), s.v] w (DfPost w p a cap l 0 0 1 true n e) := by
  obtain ⟨has, prev, lead, width⟩ := s; obtain ⟨hs1, hs2, hs3⟩ := hs; have HO := hid (fun W => of_any ⟨has, prev, lead, width⟩ ⟨hs1, hs2, hs3⟩ W); have HT1 := hid hd; have HT2 := hid hd2; have HT3 := hid hd3; have hp := h.lt; have H := hid h; clear h hd hd2 hd3
  go_enter Tryz.func148, Tryz.ntmps148; go_wp2_with (first | (go_at_call 129; (with_reducible refine (HO.out _).mono ?_); rintro _ _ ⟨⟨e1, rfl⟩, rfl⟩))
  go_at_call 146
  with_reducible refine (HT1.out _ (hsl _ (by exact chA)) (by exact rdA H.out)).mono ?_
  rintro _ w2 ⟨rfl, m2, at2, hw, hb, hz⟩; obtain rfl := hz rfl; have H2 : Hid (RdAt _ _ _ _ _ _ 0) := hid hb; have C2 : Hid (Chg [p] w w2) := hid (by rw [hw]; exact (by exact chA)); have B7 : Hid (Blk w2 (w.heap.size + 1 + 1 + e1.heap.size) [.int .i64 lead, .int .i64 width] 227) := hid (by rw [hw]; exact (by exact blA)); have B5 : Hid (Blk w2 (w.heap.size + 1) [.int .i64 0, .int .i64 0] 227) := hid (by rw [hw]; exact (by exact blA)); clear hw hb hz HT1; have n75 : ¬ (w.heap.size + 1 + 1 + e1.heap.size = w.heap.size + 1) := by omega
  have n7 : ¬ (w.heap.size + 1 + 1 + e1.heap.size = p) := by omega
  have n5 : ¬ (w.heap.size + 1 = p) := by omega
  have g7 : w.heap.size ≤ w.heap.size + 1 + 1 + e1.heap.size := by omega
  have g5 : w.heap.size ≤ w.heap.size + 1 := by omega
  generalize w.heap.size + 1 + 1 + e1.heap.size = t7 at *; generalize w.heap.size + 1 = t5 at *; go_wp2_with fail
  go_at_call 146
  with_reducible refine (HT2.out _ (hsl _ C2.out) (by exact rdA H2.out)).mono ?_
  rintro _ w3 ⟨rfl, m3, at3, hw, hb, hz⟩; obtain rfl := hz rfl; have H3 : Hid (RdAt _ _ _ _ _ _ 0) := hid hb; have C3 : Hid (Chg [p] w w3) := hid (by rw [hw]; exact C2.out.in_ m3 (fun i hi => .inl hi)); have c3 : Chg [p] w2 w3 := by rw [hw]; exact chg_chg _ _ _
  have B7' := hid (B7.out.chg c3 (by simpa using n7)); have B5' := hid (B5.out.chg c3 (by simpa using n5)); clear hw hb hz HT2 c3 B7 B5 H2 C2; go_wp2_with fail
  go_at_call 146
  with_reducible refine (HT3.out _ (hsl _ C3.out) (by exact rdA H3.out)).mono ?_
  rintro _ w4 ⟨rfl, m4, at4, hw, hb, hz⟩; have H4 := hid hb; have HZ := hid hz; have C4 : Hid (Chg [p] w w4) := hid (by rw [hw]; exact C3.out.in_ m4 (fun i hi => .inl hi)); have c4 : Chg [p] w3 w4 := by rw [hw]; exact chg_chg _ _ _
  have B7 := hid (B7'.out.chg c4 (by simpa using n7)); have B5 := hid (B5'.out.chg c4 (by simpa using n5)); clear hw hb hz HT3 c4 B7' B5' H3 C3; have hp4 := H4.out.lt; have b70 := B7.out.cell 0 rfl; have b71 := B7.out.cell 1 rfl; have f70 := B7.out.free 0; have f71 := B7.out.free 1; have hl7 := B7.out.lt; have b50 := B5.out.cell 0 rfl; have b51 := B5.out.cell 1 rfl; have f50 := B5.out.free 0; have f51 := B5.out.free 1; have hl5 := B5.out.lt; have r3 := H4.out.cell 3 rfl; have he' : ((e : Int) == 0) = false := by simp; exact he
  have HD := hid (fun W => down_any 0 1 (by omega) (by omega) W); have HR := hid (fun W (h : RdAt W p a cap l at4 e) Wd => take_err W p a cap l at4 e he h Wd); go_wp2_with (go_at_call 146; (with_reducible refine (HR.out _ (by exact rdA H4.out) _).mono ?_); rintro _ _ ⟨⟨e5, rfl⟩, rfl⟩)
  obtain ⟨F, hF⟩ : ∃ F, F = [p, t5] := ⟨_, rfl⟩; have q1 : t5 ∈ F := by rw [hF]; simp
  have q2 : p ∈ F := by rw [hF]; simp
  have q3 : t7 ∉ F := by rw [hF]; simp; omega
  clear hF; refine M2.wrz (fun w' => ∃ m : Mut, w' = chg F _ m) [3, 5, 10] 12 (by kernel_rfl) (by kernel_rfl) (by decide) (chg_of (Chg.refl _ _)) ?_; simp only [M2.td]; with_reducible refine M2.mlq 3 (by kernel_rfl) ?_
  simp only [M2.td]; repeat (go_big_quiet_step (fail))
  with_reducible refine wpQuiet_nil ?_
  with_reducible refine M2.mixL_eff (by decide) ?_
  go_wp2_with ((go_at_call 146; (with_reducible refine (HR.out _ (by exact rdA H4.out) _).mono ?_); rintro _ _ ⟨⟨e6, rfl⟩, rfl⟩))
  refine M2.MixQ.mk (chg_of (by exact chA)) ?_; with_reducible refine M2.mlq 1 (by kernel_rfl) ?_
  simp only [M2.td]; repeat (go_big_quiet_step (fail))
  with_reducible refine wpQuiet_nil ?_
  with_reducible refine M2.mixL_eff (by decide) ?_
  go_wp2_with ((go_at_call 131; (with_reducible refine (HD.out _).mono ?_); rintro _ _ ⟨⟨e2, rfl⟩, rfl⟩))
  refine M2.MixQ.mk (chg_of (by exact chA)) ?_; with_reducible refine M2.mlq 4 (by kernel_rfl) ?_
  simp only [M2.td]; repeat (go_big_quiet_step (fail))
  with_reducible refine wpQuiet_nil ?_
  with_reducible refine M2.mixL_eff (by decide) ?_
  go_wp2_with (fail)
  refine M2.MixQ.mk (chg_of (by exact chA)) ?_; with_reducible refine M2.mlq 1 (by kernel_rfl) ?_
  simp only [M2.td]; repeat (go_big_quiet_step (fail))
  with_reducible refine wpQuiet_nil ?_
  with_reducible refine M2.mln ?_
  with_reducible refine M2.mln ?_
  go_wp2
  (try simp only [Exit.inBlock, Exit.then])
  refine bodyPost_ret (v := ?rv34) ?rh34 rfl ?rp34
  case rh34 => (simp only [results, show Tryz.f148.results = #[.tmp 4, .cell 5 227, .tmp 6] from rfl]; go_simp; rfl)
  exact DfPost.mk (by exact chB C4.out) (by exact rdA H4.out) HZ.out rfl
theorem df_3f (w : World) (p : Nat) (a : Option Addr) (cap : Nat) (l : List Bool) (hsl : ∀ w', Chg [p] w w' → SlB w' a cap (pack l)) (at_ : Int) (h : RdAt w p a cap l at_ 0) (s : Vl) (hs : s.wf)
    (n1 n2 n3 n : Int) (L : Nat) (hL : L < 32) (e : Nat) (he : e ≠ 0) (hd : TK l a cap p at_ 1 1 n1 0) (hd2 : TK l a cap p n1 1 1 n2 0) (hd3 : TK l a cap p n2 5 L n3 0) (hd4 : TK l a cap p n3 6 0 n e) :
    Calls Tryz.prog 148 #[.pointer (some ⟨p, 0, none⟩), s.v] w (DfPost w p a cap l 0 L 1 true n e) := by
  have HT4 := hid hd4; clear hd4; obtain ⟨has, prev, lead, width⟩ := s; obtain ⟨hs1, hs2, hs3⟩ := hs; have HO := hid (fun W => of_any ⟨has, prev, lead, width⟩ ⟨hs1, hs2, hs3⟩ W); have HT1 := hid hd; have HT2 := hid hd2; have HT3 := hid hd3; have hp := h.lt; have H := hid h; clear h hd hd2 hd3
  go_enter Tryz.func148, Tryz.ntmps148; go_wp2_with (first | (go_at_call 129; (with_reducible refine (HO.out _).mono ?_); rintro _ _ ⟨⟨e1, rfl⟩, rfl⟩))
  go_at_call 146
  with_reducible refine (HT1.out _ (hsl _ (by exact chA)) (by exact rdA H.out)).mono ?_
  rintro _ w2 ⟨rfl, m2, at2, hw, hb, hz⟩; obtain rfl := hz rfl; have H2 : Hid (RdAt _ _ _ _ _ _ 0) := hid hb; have C2 : Hid (Chg [p] w w2) := hid (by rw [hw]; exact (by exact chA)); have B7 : Hid (Blk w2 (w.heap.size + 1 + 1 + e1.heap.size) [.int .i64 lead, .int .i64 width] 227) := hid (by rw [hw]; exact (by exact blA)); have B5 : Hid (Blk w2 (w.heap.size + 1) [.int .i64 0, .int .i64 0] 227) := hid (by rw [hw]; exact (by exact blA)); clear hw hb hz HT1; have n75 : ¬ (w.heap.size + 1 + 1 + e1.heap.size = w.heap.size + 1) := by omega
  have n7 : ¬ (w.heap.size + 1 + 1 + e1.heap.size = p) := by omega
  have n5 : ¬ (w.heap.size + 1 = p) := by omega
  have g7 : w.heap.size ≤ w.heap.size + 1 + 1 + e1.heap.size := by omega
  have g5 : w.heap.size ≤ w.heap.size + 1 := by omega
  generalize w.heap.size + 1 + 1 + e1.heap.size = t7 at *; generalize w.heap.size + 1 = t5 at *; go_wp2_with fail
  go_at_call 146
  with_reducible refine (HT2.out _ (hsl _ C2.out) (by exact rdA H2.out)).mono ?_
  rintro _ w3 ⟨rfl, m3, at3, hw, hb, hz⟩; obtain rfl := hz rfl; have H3 : Hid (RdAt _ _ _ _ _ _ 0) := hid hb; have C3 : Hid (Chg [p] w w3) := hid (by rw [hw]; exact C2.out.in_ m3 (fun i hi => .inl hi)); have c3 : Chg [p] w2 w3 := by rw [hw]; exact chg_chg _ _ _
  have B7' := hid (B7.out.chg c3 (by simpa using n7)); have B5' := hid (B5.out.chg c3 (by simpa using n5)); clear hw hb hz HT2 c3 B7 B5 H2 C2; go_wp2_with fail
  go_at_call 146
  with_reducible refine (HT3.out _ (hsl _ C3.out) (by exact rdA H3.out)).mono ?_
  rintro _ w4 ⟨rfl, m4, at4, hw, hb, hz⟩; obtain rfl := hz rfl; have H4 : Hid (RdAt _ _ _ _ _ _ 0) := hid hb; have C4 : Hid (Chg [p] w w4) := hid (by rw [hw]; exact C3.out.in_ m4 (fun i hi => .inl hi)); have c4 : Chg [p] w3 w4 := by rw [hw]; exact chg_chg _ _ _
  have B7 := hid (B7'.out.chg c4 (by simpa using n7)); have B5 := hid (B5'.out.chg c4 (by simpa using n5)); clear hw hb hz HT3 c4 B7' B5' H3 C3; have b70 := B7.out.cell 0 rfl; have f70 := B7.out.free 0; have hl7 := B7.out.lt; go_wp2_with fail
  go_at_call 146
  with_reducible refine (HT4.out _ (hsl _ (by exact chB C4.out)) (by exact rdA H4.out)).mono ?_
  rintro _ w5 ⟨rfl, m5, at5, hw, hb, hz⟩; have H5 := hid hb; have HZ := hid hz; have C5 : Hid (Chg [p] w w5) := hid (by rw [hw]; exact Chg.in_ (by exact chB C4.out) m5 (fun i hi => .inl hi)); have B7' : Hid (Blk w5 t7 [.int .i64 L, .int .i64 width] 227) := hid (by rw [hw]; exact (B7.out.set 0 _).chg (chg_chg _ _ _) (by simpa using n7)); have B5' : Hid (Blk w5 t5 [.int .i64 0, .int .i64 0] 227) := hid (by rw [hw]; exact (B5.out.set_ne (by simp; omega) _).chg (chg_chg _ _ _) (by simpa using n5)); clear hw hb hz HT4 B7 B5 H4 C4 b70 f70 hl7; have B7 := B7'; have B5 := B5'; clear B7' B5'; have hp5 := H5.out.lt; have b70 := B7.out.cell 0 rfl; have b71 := B7.out.cell 1 rfl; have f70 := B7.out.free 0; have f71 := B7.out.free 1; have hl7 := B7.out.lt; have b50 := B5.out.cell 0 rfl; have b51 := B5.out.cell 1 rfl; have f50 := B5.out.free 0; have f51 := B5.out.free 1; have hl5 := B5.out.lt; have r3 := H5.out.cell 3 rfl; have he' : ((e : Int) == 0) = false := by simp; exact he
  have HD := hid (fun W => down_any L 1 (by omega) (by omega) W); have HR := hid (fun W (h : RdAt W p a cap l at5 e) Wd => take_err W p a cap l at5 e he h Wd); go_wp2_with (go_at_call 146; (with_reducible refine (HR.out _ (by exact rdA H5.out) _).mono ?_); rintro _ _ ⟨⟨e5, rfl⟩, rfl⟩)
  obtain ⟨F, hF⟩ : ∃ F, F = [p, t5] := ⟨_, rfl⟩; have q1 : t5 ∈ F := by rw [hF]; simp
  have q2 : p ∈ F := by rw [hF]; simp
  have q3 : t7 ∉ F := by rw [hF]; simp; omega
  clear hF; have hm : max (64 - (L : Int) - 1) 0 = 64 - (L : Int) - 1 := by omega
  refine M2.wrz (fun w' => ∃ m : Mut, w' = chg F _ m) [3, 5, 10] 12 (by kernel_rfl) (by kernel_rfl) (by decide) (chg_of (Chg.refl _ _)) ?_; simp only [M2.td]; with_reducible refine M2.mlq 3 (by kernel_rfl) ?_
  simp only [M2.td]; repeat (go_big_quiet_step (fail))
  with_reducible refine wpQuiet_nil ?_
  with_reducible refine M2.mixL_eff (by decide) ?_
  go_wp2_with ((go_at_call 146; (with_reducible refine (HR.out _ (by exact rdA H5.out) _).mono ?_); rintro _ _ ⟨⟨e6, rfl⟩, rfl⟩))
  refine M2.MixQ.mk (chg_of (by exact chA)) ?_; with_reducible refine M2.mlq 1 (by kernel_rfl) ?_
  simp only [M2.td]; repeat (go_big_quiet_step (fail))
  with_reducible refine wpQuiet_nil ?_
  with_reducible refine M2.mixL_eff (by decide) ?_
  go_wp2_with ((go_at_call 131; (with_reducible refine (HD.out _).mono ?_); rintro _ _ ⟨⟨e2, rfl⟩, rfl⟩))
  refine M2.MixQ.mk (chg_of (by exact chA)) ?_; with_reducible refine M2.mlq 4 (by kernel_rfl) ?_
  simp only [M2.td]; repeat (go_big_quiet_step (fail))
  with_reducible refine wpQuiet_nil ?_
  with_reducible refine M2.mixL_eff (by decide) ?_
  go_wp2_with (fail)
  refine M2.MixQ.mk (chg_of (by exact chA)) ?_; with_reducible refine M2.mlq 1 (by kernel_rfl) ?_
  simp only [M2.td]; repeat (go_big_quiet_step (fail))
  with_reducible refine wpQuiet_nil ?_
  with_reducible refine M2.mln ?_
  with_reducible refine M2.mln ?_
  go_wp2
  (try simp only [Exit.inBlock, Exit.then])
  refine bodyPost_ret (v := ?rv35) ?rh35 rfl ?rp35
  case rh35 => (simp only [results, show Tryz.f148.results = #[.tmp 4, .cell 5 227, .tmp 6] from rfl]; go_simp; rfl)
  exact DfPost.mk (by exact chB C5.out) (by exact rdA H5.out) HZ.out rfl
theorem df_3g (w : World) (p : Nat) (a : Option Addr) (cap : Nat) (l : List Bool) (hsl : ∀ w', Chg [p] w w' → SlB w' a cap (pack l)) (at_ : Int) (h : RdAt w p a cap l at_ 0) (s : Vl) (hs : s.wf)
    (n1 n2 n3 n : Int) (L S : Nat) (hL : L < 32) (hS : S < 64) (hLS : 64 < L + (S + 1)) (hd : TK l a cap p at_ 1 1 n1 0) (hd2 : TK l a cap p n1 1 1 n2 0) (hd3 : TK l a cap p n2 5 L n3 0) (hd4 : TK l a cap p n3 6 S n 0) :
    Calls Tryz.prog 148 #[.pointer (some ⟨p, 0, none⟩), s.v] w (DfPost w p a cap l 0 L (S + 1) true n 30) := by
  have HT4 := hid hd4; clear hd4; obtain ⟨has, prev, lead, width⟩ := s; obtain ⟨hs1, hs2, hs3⟩ := hs; have HO := hid (fun W => of_any ⟨has, prev, lead, width⟩ ⟨hs1, hs2, hs3⟩ W); have HT1 := hid hd; have HT2 := hid hd2; have HT3 := hid hd3; have hp := h.lt; have H := hid h; clear h hd hd2 hd3
  go_enter Tryz.func148, Tryz.ntmps148; go_wp2_with (first | (go_at_call 129; (with_reducible refine (HO.out _).mono ?_); rintro _ _ ⟨⟨e1, rfl⟩, rfl⟩))
  go_at_call 146
  with_reducible refine (HT1.out _ (hsl _ (by exact chA)) (by exact rdA H.out)).mono ?_
  rintro _ w2 ⟨rfl, m2, at2, hw, hb, hz⟩; obtain rfl := hz rfl; have H2 : Hid (RdAt _ _ _ _ _ _ 0) := hid hb; have C2 : Hid (Chg [p] w w2) := hid (by rw [hw]; exact (by exact chA)); have B7 : Hid (Blk w2 (w.heap.size + 1 + 1 + e1.heap.size) [.int .i64 lead, .int .i64 width] 227) := hid (by rw [hw]; exact (by exact blA)); have B5 : Hid (Blk w2 (w.heap.size + 1) [.int .i64 0, .int .i64 0] 227) := hid (by rw [hw]; exact (by exact blA)); clear hw hb hz HT1; have n75 : ¬ (w.heap.size + 1 + 1 + e1.heap.size = w.heap.size + 1) := by omega
  have n7 : ¬ (w.heap.size + 1 + 1 + e1.heap.size = p) := by omega
  have n5 : ¬ (w.heap.size + 1 = p) := by omega
  have g7 : w.heap.size ≤ w.heap.size + 1 + 1 + e1.heap.size := by omega
  have g5 : w.heap.size ≤ w.heap.size + 1 := by omega
  generalize w.heap.size + 1 + 1 + e1.heap.size = t7 at *; generalize w.heap.size + 1 = t5 at *; go_wp2_with fail
  go_at_call 146
  with_reducible refine (HT2.out _ (hsl _ C2.out) (by exact rdA H2.out)).mono ?_
  rintro _ w3 ⟨rfl, m3, at3, hw, hb, hz⟩; obtain rfl := hz rfl; have H3 : Hid (RdAt _ _ _ _ _ _ 0) := hid hb; have C3 : Hid (Chg [p] w w3) := hid (by rw [hw]; exact C2.out.in_ m3 (fun i hi => .inl hi)); have c3 : Chg [p] w2 w3 := by rw [hw]; exact chg_chg _ _ _
  have B7' := hid (B7.out.chg c3 (by simpa using n7)); have B5' := hid (B5.out.chg c3 (by simpa using n5)); clear hw hb hz HT2 c3 B7 B5 H2 C2; go_wp2_with fail
  go_at_call 146
  with_reducible refine (HT3.out _ (hsl _ C3.out) (by exact rdA H3.out)).mono ?_
  rintro _ w4 ⟨rfl, m4, at4, hw, hb, hz⟩; obtain rfl := hz rfl; have H4 : Hid (RdAt _ _ _ _ _ _ 0) := hid hb; have C4 : Hid (Chg [p] w w4) := hid (by rw [hw]; exact C3.out.in_ m4 (fun i hi => .inl hi)); have c4 : Chg [p] w3 w4 := by rw [hw]; exact chg_chg _ _ _
  have B7 := hid (B7'.out.chg c4 (by simpa using n7)); have B5 := hid (B5'.out.chg c4 (by simpa using n5)); clear hw hb hz HT3 c4 B7' B5' H3 C3; have b70 := B7.out.cell 0 rfl; have f70 := B7.out.free 0; have hl7 := B7.out.lt; go_wp2_with fail
  go_at_call 146
  with_reducible refine (HT4.out _ (hsl _ (by exact chB C4.out)) (by exact rdA H4.out)).mono ?_
  rintro _ w5 ⟨rfl, m5, at5, hw, hb, hz⟩; obtain rfl := hz rfl; have H5 : Hid (RdAt _ _ _ _ _ _ 0) := hid hb; have C5 : Hid (Chg [p] w w5) := hid (by rw [hw]; exact Chg.in_ (by exact chB C4.out) m5 (fun i hi => .inl hi)); have B7' : Hid (Blk w5 t7 [.int .i64 L, .int .i64 width] 227) := hid (by rw [hw]; exact (B7.out.set 0 _).chg (chg_chg _ _ _) (by simpa using n7)); have B5' : Hid (Blk w5 t5 [.int .i64 0, .int .i64 0] 227) := hid (by rw [hw]; exact (B5.out.set_ne (by simp; omega) _).chg (chg_chg _ _ _) (by simpa using n5)); clear hw hb hz HT4 B7 B5 H4 C4 b70 f70 hl7; have B7 := B7'; have B5 := B5'; clear B7' B5'; have hp5 := H5.out.lt; have b70 := B7.out.cell 0 rfl; have b71 := B7.out.cell 1 rfl; have f70 := B7.out.free 0; have f71 := B7.out.free 1; have hl7 := B7.out.lt; have b50 := B5.out.cell 0 rfl; have b51 := B5.out.cell 1 rfl; have f50 := B5.out.free 0; have f51 := B5.out.free 1; have hl5 := B5.out.lt; have r3 := H5.out.cell 3 rfl; have r3f := H5.out.free 3; have HD := hid (fun W => down_any L (S + 1) (by omega) (by omega) W); have HR := hid (fun W (h : RdAt W p a cap l at5 ((30 : Nat) : Int)) Wd => take_err W p a cap l at5 30 (by decide) h Wd); have hm : max (64 - (L : Int) - ((S : Int) + 1)) 0 = 0 := by omega
  have hm2 : 64 - (L : Int) - ((S : Int) + 1) < 0 := by omega
  go_wp2_with (go_at_call 131; (with_reducible refine (HD.out _).mono ?_); rintro _ _ ⟨⟨e2, rfl⟩, rfl⟩)
  obtain ⟨F, hF⟩ : ∃ F, F = [p, t5] := ⟨_, rfl⟩; have q1 : t5 ∈ F := by rw [hF]; simp
  have q2 : p ∈ F := by rw [hF]; simp
  have q3 : t7 ∉ F := by rw [hF]; simp; omega
  clear hF; have H6 : Hid (∀ W, Blk W p (([.slice a (pack l).length cap, .int .i64 (l.length : Nat), .int .i64 at5, .int .u16 0] : List Value).set 3 (.int .u16 30)) 248 → RdAt W p a cap l at5 ((30 : Nat) : Int)) := hid (fun W h => h); refine M2.wrz (fun w' => ∃ m : Mut, w' = chg F _ m) [3, 5, 10] 12 (by kernel_rfl) (by kernel_rfl) (by decide) (chg_of (Chg.refl _ _)) ?_; simp only [M2.td]; with_reducible refine M2.mlq 3 (by kernel_rfl) ?_
  simp only [M2.td]; repeat (go_big_quiet_step (fail))
  with_reducible refine wpQuiet_nil ?_
  with_reducible refine M2.mixL_eff (by decide) ?_
  go_wp2_with ((go_at_call 146; (with_reducible refine (HR.out _ (H6.out _ (by repeat (first | with_reducible exact H5.out | with_reducible refine Blk.alloc ?_ _ | with_reducible refine Blk.drew ?_ | with_reducible refine Blk.on ?_ _ | with_reducible refine Blk.set ?_ _ _ | ((with_reducible refine Blk.set_ne ?_ ?_ _); rotate_left; (first | (focus (simp; done)) | (focus (simp; omega))))))) _).mono ?_); rintro _ _ ⟨⟨e6, rfl⟩, rfl⟩))
  refine M2.MixQ.mk (chg_of (by exact chA)) ?_; with_reducible refine M2.mlq 1 (by kernel_rfl) ?_
  simp only [M2.td]; repeat (go_big_quiet_step (fail))
  with_reducible refine wpQuiet_nil ?_
  with_reducible refine M2.mixL_eff (by decide) ?_
  go_wp2_with ((go_at_call 131; (with_reducible refine (HD.out _).mono ?_); rintro _ _ ⟨⟨e3, rfl⟩, rfl⟩))
  refine M2.MixQ.mk (chg_of (by exact chA)) ?_; with_reducible refine M2.mlq 4 (by kernel_rfl) ?_
  simp only [M2.td]; repeat (go_big_quiet_step (fail))
  with_reducible refine wpQuiet_nil ?_
  with_reducible refine M2.mixL_eff (by decide) ?_
  go_wp2_with (fail)
  refine M2.MixQ.mk (chg_of (by exact chA)) ?_; with_reducible refine M2.mlq 1 (by kernel_rfl) ?_
  simp only [M2.td]; repeat (go_big_quiet_step (fail))
  with_reducible refine wpQuiet_nil ?_
  with_reducible refine M2.mln ?_
  with_reducible refine M2.mln ?_
  go_wp2
  (try simp only [Exit.inBlock, Exit.then])
  refine bodyPost_ret (v := ?rv36) ?rh36 rfl ?rp36
  case rh36 => (simp only [results, show Tryz.f148.results = #[.tmp 4, .cell 5 227, .tmp 6] from rfl]; go_simp; rfl)
  exact DfPost.mk (by exact chB C5.out) (H6.out _ (by repeat (first | with_reducible exact H5.out | with_reducible refine Blk.alloc ?_ _ | with_reducible refine Blk.drew ?_ | with_reducible refine Blk.on ?_ _ | with_reducible refine Blk.set ?_ _ _ | ((with_reducible refine Blk.set_ne ?_ ?_ _); rotate_left; (first | (focus (simp; done)) | (focus (simp; omega))))))) (fun h => by cases h) rfl
theorem df_3h (w : World) (p : Nat) (a : Option Addr) (cap : Nat) (l : List Bool) (hsl : ∀ w', Chg [p] w w' → SlB w' a cap (pack l)) (at_ : Int) (h : RdAt w p a cap l at_ 0) (s : Vl) (hs : s.wf)
    (n1 n2 n3 n4 n : Int) (L S d e : Nat) (hL : L < 32) (hS : S < 64) (hLS : ¬ 64 < L + (S + 1)) (hd : TK l a cap p at_ 1 1 n1 0) (hd2 : TK l a cap p n1 1 1 n2 0) (hd3 : TK l a cap p n2 5 L n3 0) (hd4 : TK l a cap p n3 6 S n4 0) (hd5 : TK l a cap p n4 ((S : Int) + 1) d n e) :
    Calls Tryz.prog 148 #[.pointer (some ⟨p, 0, none⟩), s.v] w (DfPost w p a cap l (d <<< (64 - L - (S + 1)) % 18446744073709551616) L (S + 1) true n e) := by
  have HT4 := hid hd4; have HT5 := hid hd5; clear hd4 hd5; have hsx := shx d (64 - L - (S + 1)); obtain ⟨D, hD⟩ : ∃ D, d <<< (64 - L - (S + 1)) % 18446744073709551616 = D := ⟨_, rfl⟩; rw [hD] at hsx ⊢; clear hD; obtain ⟨has, prev, lead, width⟩ := s; obtain ⟨hs1, hs2, hs3⟩ := hs; have HO := hid (fun W => of_any ⟨has, prev, lead, width⟩ ⟨hs1, hs2, hs3⟩ W); have HT1 := hid hd; have HT2 := hid hd2; have HT3 := hid hd3; have hp := h.lt; have H := hid h; clear h hd hd2 hd3
  go_enter Tryz.func148, Tryz.ntmps148; go_wp2_with (first | (go_at_call 129; (with_reducible refine (HO.out _).mono ?_); rintro _ _ ⟨⟨e1, rfl⟩, rfl⟩))
  go_at_call 146
  with_reducible refine (HT1.out _ (hsl _ (by exact chA)) (by exact rdA H.out)).mono ?_
  rintro _ w2 ⟨rfl, m2, at2, hw, hb, hz⟩; obtain rfl := hz rfl; have H2 : Hid (RdAt _ _ _ _ _ _ 0) := hid hb; have C2 : Hid (Chg [p] w w2) := hid (by rw [hw]; exact (by exact chA)); have B7 : Hid (Blk w2 (w.heap.size + 1 + 1 + e1.heap.size) [.int .i64 lead, .int .i64 width] 227) := hid (by rw [hw]; exact (by exact blA)); have B5 : Hid (Blk w2 (w.heap.size + 1) [.int .i64 0, .int .i64 0] 227) := hid (by rw [hw]; exact (by exact blA)); clear hw hb hz HT1; have n75 : ¬ (w.heap.size + 1 + 1 + e1.heap.size = w.heap.size + 1) := by omega
  have n7 : ¬ (w.heap.size + 1 + 1 + e1.heap.size = p) := by omega
  have n5 : ¬ (w.heap.size + 1 = p) := by omega
  have g7 : w.heap.size ≤ w.heap.size + 1 + 1 + e1.heap.size := by omega
  have g5 : w.heap.size ≤ w.heap.size + 1 := by omega
  generalize w.heap.size + 1 + 1 + e1.heap.size = t7 at *; generalize w.heap.size + 1 = t5 at *; go_wp2_with fail
  go_at_call 146
  with_reducible refine (HT2.out _ (hsl _ C2.out) (by exact rdA H2.out)).mono ?_
  rintro _ w3 ⟨rfl, m3, at3, hw, hb, hz⟩; obtain rfl := hz rfl; have H3 : Hid (RdAt _ _ _ _ _ _ 0) := hid hb; have C3 : Hid (Chg [p] w w3) := hid (by rw [hw]; exact C2.out.in_ m3 (fun i hi => .inl hi)); have c3 : Chg [p] w2 w3 := by rw [hw]; exact chg_chg _ _ _
  have B7' := hid (B7.out.chg c3 (by simpa using n7)); have B5' := hid (B5.out.chg c3 (by simpa using n5)); clear hw hb hz HT2 c3 B7 B5 H2 C2; go_wp2_with fail
  go_at_call 146
  with_reducible refine (HT3.out _ (hsl _ C3.out) (by exact rdA H3.out)).mono ?_
  rintro _ w4 ⟨rfl, m4, at4, hw, hb, hz⟩; obtain rfl := hz rfl; have H4 : Hid (RdAt _ _ _ _ _ _ 0) := hid hb; have C4 : Hid (Chg [p] w w4) := hid (by rw [hw]; exact C3.out.in_ m4 (fun i hi => .inl hi)); have c4 : Chg [p] w3 w4 := by rw [hw]; exact chg_chg _ _ _
  have B7 := hid (B7'.out.chg c4 (by simpa using n7)); have B5 := hid (B5'.out.chg c4 (by simpa using n5)); clear hw hb hz HT3 c4 B7' B5' H3 C3; have b70 := B7.out.cell 0 rfl; have f70 := B7.out.free 0; have hl7 := B7.out.lt; go_wp2_with fail
  go_at_call 146
  with_reducible refine (HT4.out _ (hsl _ (by exact chB C4.out)) (by exact rdA H4.out)).mono ?_
  rintro _ w5 ⟨rfl, m5, at5, hw, hb, hz⟩; obtain rfl := hz rfl; have H5 : Hid (RdAt _ _ _ _ _ _ 0) := hid hb; have C5 : Hid (Chg [p] w w5) := hid (by rw [hw]; exact Chg.in_ (by exact chB C4.out) m5 (fun i hi => .inl hi)); have B7' : Hid (Blk w5 t7 [.int .i64 L, .int .i64 width] 227) := hid (by rw [hw]; exact (B7.out.set 0 _).chg (chg_chg _ _ _) (by simpa using n7)); have B5' : Hid (Blk w5 t5 [.int .i64 0, .int .i64 0] 227) := hid (by rw [hw]; exact (B5.out.set_ne (by simp; omega) _).chg (chg_chg _ _ _) (by simpa using n5)); clear hw hb hz HT4 B7 B5 H4 C4 b70 f70 hl7; have B7 := B7'; have B5 := B5'; clear B7' B5'; have hp5 := H5.out.lt; have b70 := B7.out.cell 0 rfl; have b71 := B7.out.cell 1 rfl; have f70 := B7.out.free 0; have f71 := B7.out.free 1; have hl7 := B7.out.lt; have b50 := B5.out.cell 0 rfl; have b51 := B5.out.cell 1 rfl; have f50 := B5.out.free 0; have f51 := B5.out.free 1; have hl5 := B5.out.lt; have r3 := H5.out.cell 3 rfl; have HD := hid (fun W => down_any L (S + 1) (by omega) (by omega) W); have hm : max (64 - (L : Int) - ((S : Int) + 1)) 0 = 64 - (L : Int) - ((S : Int) + 1) := by omega
  have hm2 : ¬ 64 - (L : Int) - ((S : Int) + 1) < 0 := by omega
  go_wp2_with (go_at_call 131; (with_reducible refine (HD.out _).mono ?_); rintro _ _ ⟨⟨e2, rfl⟩, rfl⟩)
  obtain ⟨F, hF⟩ : ∃ F, F = [p, t5] := ⟨_, rfl⟩; have q1 : t5 ∈ F := by rw [hF]; simp
  have q2 : p ∈ F := by rw [hF]; simp
  have q3 : t7 ∉ F := by rw [hF]; simp; omega
  clear hF; refine M2.wrz (fun w' => ∃ m : Mut, w' = chg F _ m) [3, 5, 10] 12 (by kernel_rfl) (by kernel_rfl) (by decide) (chg_of (Chg.refl _ _)) ?_; simp only [M2.td]; with_reducible refine M2.mlq 3 (by kernel_rfl) ?_
  simp only [M2.td]; repeat (go_big_quiet_step (fail))
  with_reducible refine wpQuiet_nil ?_
  with_reducible refine M2.mixL_eff (by decide) ?_
  go_wp2_with ((go_at_call 146; (with_reducible refine (HT5.out _ (hsl _ (by exact chB C5.out)) (by exact rdA H5.out)).mono ?_); rintro _ _ ⟨rfl, m6, at6, rfl, hb6, hz6⟩; (try simp only [cdr] at hb6); have H6 := hid hb6; have HZ := hid hz6; clear hb6 hz6 HT5; have B6 : Blk (chg [p] (over (w5.setCell ⟨t7, 1, none⟩ (.int .i64 ((S : Int) + 1))) e2) m6) t5 [.int .i64 0, .int .i64 0] 227 := (by exact rdA B5.out); have k60 := B6.cell 0 rfl; have k61 := B6.cell 1 rfl; have k62 := B6.free 0; have k63 := B6.free 1; have k64 := B6.lt; clear B6))
  refine M2.MixQ.mk (chg_of (by exact chA)) ?_; with_reducible refine M2.mlq 1 (by kernel_rfl) ?_
  simp only [M2.td]; repeat (go_big_quiet_step (fail))
  with_reducible refine wpQuiet_nil ?_
  with_reducible refine M2.mixL_eff (by decide) ?_
  go_wp2_with ((go_at_call 131; (with_reducible refine (HD.out _).mono ?_); rintro _ _ ⟨⟨e3, rfl⟩, rfl⟩))
  refine M2.MixQ.mk (chg_of (by exact chA)) ?_; with_reducible refine M2.mlq 4 (by kernel_rfl) ?_
  simp only [M2.td]; repeat (go_big_quiet_step (fail))
  with_reducible refine wpQuiet_nil ?_
  with_reducible refine M2.mixL_eff (by decide) ?_
  go_wp2_with (fail)
  refine M2.MixQ.mk (chg_of (by exact chA)) ?_; with_reducible refine M2.mlq 1 (by kernel_rfl) ?_
  simp only [M2.td]; repeat (go_big_quiet_step (fail))
  with_reducible refine wpQuiet_nil ?_
  with_reducible refine M2.mln ?_
  with_reducible refine M2.mln ?_
  go_wp2
  (try simp only [Exit.inBlock, Exit.then])
  refine bodyPost_ret (v := ?rv37) ?rh37 rfl ?rp37
  case rh37 => (simp only [results, show Tryz.f148.results = #[.tmp 4, .cell 5 227, .tmp 6] from rfl]; go_simp; rfl)
  exact DfPost.mk (by exact chB C5.out) (by exact rdA H6.out) HZ.out rfl
end
end Go.Proofs.YtnffcckhdedhpaaGreatDoor
