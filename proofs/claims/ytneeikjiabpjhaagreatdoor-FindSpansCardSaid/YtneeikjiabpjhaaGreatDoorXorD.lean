/- Walks: the reader of bits (xor): differs. -/
import Derived.Test.YtneeikjiabpjhaaGreatDoorXorR
namespace Go.Proofs.YtneeikjiabpjhaaGreatDoor
set_option linter.unusedVariables false
set_option linter.unusedSimpArgs false
open Go.RowKit
attribute [local go_sem] over_drew chg_drew setCell_chg

def DfPost (w : World) (p : Nat) (a : Option Addr) (cap : Nat) (l : List Bool) (d lead size : Nat) (fr : Bool) (n : Int) (e : Nat) (en : Ending) (w' : World) : Prop :=
  en = .returned (.tuple #[.int .u64 (d : Nat), bandV lead size, .bool fr]) ∧ ∃ m at', w' = chg [p] w m ∧ RdAt w' p a cap l at' e ∧ (e = 0 → at' = n)
theorem DfPost.mk {w w' : World} {p : Nat} {a : Option Addr} {cap : Nat} {l : List Bool} {d lead size : Nat} {fr : Bool} {n at' : Int} {e : Nat} (hc : Chg [p] w w') (hB : RdAt w' p a cap l at' e) (h : e = 0 → at' = n) {v : Value} (hv : v = .tuple #[.int .u64 (d : Nat), bandV lead size, .bool fr]) : DfPost w p a cap l d lead size fr n e (.returned v) w' := by
  obtain ⟨m, hm⟩ := chg_of hc
  subst hv
  exact ⟨rfl, m, at', hm, hB, h⟩
abbrev TK (l : List Bool) (a : Option Addr) (cap p : Nat) (at_ : Int) (W : Int) (v : Nat) (n : Int) (e : Nat) : Prop :=
  ∀ w, SlB w a cap (pack l) → RdAt w p a cap l at_ 0 → Calls Tryz.prog 114 #[.pointer (some ⟨p, 0, none⟩), .int .i64 W] w (TkPost w p a cap l v n e)
theorem tk_of {l : List Bool} (hl : l.length ≤ 900000) (a : Option Addr) (cap p : Nat) {at_ : Int} (hat : -9223372036854775808 ≤ at_ ∧ at_ ≤ 9223372036854775807) {W : Nat} (hW : W ≤ 64) {v e : Nat} (h : getN l at_ W = (v, e)) : TK l a cap p at_ W v (at_ + W) e := fun w hb hr => by
  have := take_ok w p a cap l hl hb at_ hat hr W hW
  rw [h] at this; exact this

set_option maxRecDepth 100000 in
set_option maxHeartbeats 2000000 in
theorem df_1 (w : World) (p : Nat) (a : Option Addr) (cap : Nat) (l : List Bool) (hsl : ∀ w', Chg [p] w w' → SlB w' a cap (pack l)) (at_ : Int) (h : RdAt w p a cap l at_ 0) (s : Vl) (hs : s.wf) (hl1 : s.lead ≤ 31) (hl2 : s.lead + s.width ≤ 64)
    (n : Int) (e : Nat) (hd : TK l a cap p at_ 1 0 n e) :
    Calls Tryz.prog 116 #[.pointer (some ⟨p, 0, none⟩), s.v] w (DfPost w p a cap l 0 s.lead s.width false n e) := by
  obtain ⟨has, prev, lead, width⟩ := s
  obtain ⟨hs1, hs2, hs3⟩ := hs
  simp only at hs1 hs2 hs3 hl1 hl2 hd ⊢
  have HO := hid (fun W => of_any ⟨has, prev, lead, width⟩ ⟨hs1, hs2, hs3⟩ W)
  have HD := hid (fun W => down_any lead width (by omega) (by omega) W)
  have HT := hid hd
  have hp := h.lt
  have H := hid h
  clear h
  go_enter Tryz.func116, Tryz.ntmps116
  go_wp2_with (first | (go_at_call 108; (with_reducible refine (HO.out _).mono ?_); rintro _ _ ⟨⟨e1, rfl⟩, rfl⟩) | (go_at_call 114; (with_reducible refine (HT.out _ (hsl _ (by exact chA)) (by repeat (first | with_reducible exact H.out | with_reducible refine Blk.alloc ?_ _ | with_reducible refine Blk.drew ?_ | with_reducible refine Blk.on ?_ _ | ((with_reducible refine Blk.chg ?_ (chg_chg _ _ _) ?_); rotate_left; (first | assumption | (focus (simp; done)) | (focus (simp; omega)))) | ((with_reducible refine Blk.set_ne ?_ ?_ _); rotate_left; (first | assumption | (focus (simp; done)) | (focus (simp; omega))))))).mono ?_); rintro _ _ ⟨rfl, m2, at2, rfl, hb2, hz⟩; have H2 := hid hb2; have HZ := hid hz; clear hb2 hz))
  obtain ⟨F, hF⟩ : ∃ F, F = [p, w.heap.size + 1] := ⟨_, rfl⟩
  have n1 : w.heap.size + 1 ∈ F := by rw [hF]; simp
  have n2 : p ∈ F := by rw [hF]; simp
  have n5 : ¬ (w.heap.size + 1 = p) := by omega
  have n6 : ¬ (w.heap.size = p) := by omega
  have n3 : w.heap.size + 1 + 1 + e1.heap.size ∉ F := by rw [hF]; simp; omega
  have n4 : ¬ (w.heap.size + 1 + 1 + e1.heap.size = p) := by omega
  clear hF
  refine M2.wp_region_mixZ (fun w' => ∃ m : Mut, w' = chg F _ m) [2] 4 (by kernel_rfl) (by kernel_rfl) (by decide) (chg_of (Chg.refl _ _)) ?_
  simp only [List.take_succ_cons, List.take_zero, List.drop_succ_cons, List.drop_zero]
  with_reducible refine M2.mixL_quiet 2 (by kernel_rfl) ?_
  simp only [List.take_succ_cons, List.take_zero, List.drop_succ_cons, List.drop_zero]
  repeat (go_big_quiet_step (fail))
  with_reducible refine wpQuiet_nil ?_
  with_reducible refine M2.mixL_eff (by decide) ?_
  go_wp2_with (fail)
  refine M2.MixQ.mk (chg_of (by exact chA)) ?_
  with_reducible refine M2.mixL_quiet 1 (by kernel_rfl) ?_
  simp only [List.take_succ_cons, List.take_zero, List.drop_succ_cons, List.drop_zero]
  repeat (go_big_quiet_step (fail))
  with_reducible refine wpQuiet_nil ?_
  with_reducible refine M2.mixL_nil ?_
  with_reducible refine M2.mixL_nil ?_
  go_wp2
  (try simp only [Exit.inBlock, Exit.then])
  refine bodyPost_ret (v := ?rv31) ?rh31 rfl ?rp31
  case rh31 => (simp only [results, show Tryz.f116.results = #[.tmp 4, .cell 5 211, .tmp 6] from rfl]; go_simp; rfl)
  refine DfPost.mk (Chg.drew ?_) (Blk.drew (blk_swap H2.out (by first | exact Nat.le_refl _ | rfl | omega | (simp; done) | (simp; omega)) (by first | exact Nat.le_refl _ | rfl | omega | (simp; done) | (simp; omega)) (by first | exact Nat.le_refl _ | rfl | omega | (simp; done) | (simp; omega)))) HZ.out rfl
  exact Chg.in_ (by exact chA) _ (fun i hi => .inl hi)

set_option maxRecDepth 100000 in
set_option maxHeartbeats 4000000 in
theorem df_2 (w : World) (p : Nat) (a : Option Addr) (cap : Nat) (l : List Bool) (hsl : ∀ w', Chg [p] w w' → SlB w' a cap (pack l)) (at_ : Int) (h : RdAt w p a cap l at_ 0) (s : Vl) (hs : s.wf) (hl1 : s.lead ≤ 31) (hl2 : s.lead + s.width ≤ 64)
    (n1 n2 n : Int) (d e : Nat) (hd : TK l a cap p at_ 1 1 n1 0) (hd2 : TK l a cap p n1 1 0 n2 0) (hd3 : TK l a cap p n2 s.width d n e) :
    Calls Tryz.prog 116 #[.pointer (some ⟨p, 0, none⟩), s.v] w (DfPost w p a cap l (d <<< (64 - s.lead - s.width) % 18446744073709551616) s.lead s.width false n e) := by
  obtain ⟨has, prev, lead, width⟩ := s
  obtain ⟨hs1, hs2, hs3⟩ := hs
  simp only at hs1 hs2 hs3 hl1 hl2 hd ⊢
  have HO := hid (fun W => of_any ⟨has, prev, lead, width⟩ ⟨hs1, hs2, hs3⟩ W)
  have HD := hid (fun W => down_any lead width (by omega) (by omega) W)
  have HT1 := hid hd
  have HT2 := hid hd2
  have HT3 := hid hd3
  have hp := h.lt
  have H := hid h
  have hsx := shx d (64 - lead - width)
  obtain ⟨D, hD⟩ : ∃ D, d <<< (64 - lead - width) % 18446744073709551616 = D := ⟨_, rfl⟩
  rw [hD] at hsx ⊢
  clear h hd hd2 hd3 hD
  go_enter Tryz.func116, Tryz.ntmps116
  go_wp2_with (first | (go_at_call 108; (with_reducible refine (HO.out _).mono ?_); rintro _ _ ⟨⟨e1, rfl⟩, rfl⟩) | (go_at_call 114; (with_reducible refine (HT1.out _ (hsl _ (by exact chA)) (by repeat (first | with_reducible exact H.out | with_reducible refine Blk.alloc ?_ _ | with_reducible refine Blk.drew ?_ | with_reducible refine Blk.on ?_ _ | ((with_reducible refine Blk.chg ?_ (chg_chg _ _ _) ?_); rotate_left; (first | assumption | (focus (simp; done)) | (focus (simp; omega)))) | ((with_reducible refine Blk.set_ne ?_ ?_ _); rotate_left; (first | assumption | (focus (simp; done)) | (focus (simp; omega))))))).mono ?_); rintro _ _ ⟨rfl, m2, at2, rfl, hb2, hz⟩; obtain rfl := hz rfl; have H2 : Hid (RdAt _ _ _ _ _ _ 0) := hid hb2; clear hb2 hz HT1) | (go_at_call 114; (with_reducible refine (HT2.out _ (hsl _ (by exact chA)) (by repeat (first | with_reducible exact H2.out | with_reducible refine Blk.alloc ?_ _ | with_reducible refine Blk.drew ?_ | with_reducible refine Blk.on ?_ _ | ((with_reducible refine Blk.chg ?_ (chg_chg _ _ _) ?_); rotate_left; (first | assumption | (focus (simp; done)) | (focus (simp; omega)))) | ((with_reducible refine Blk.set_ne ?_ ?_ _); rotate_left; (first | assumption | (focus (simp; done)) | (focus (simp; omega))))))).mono ?_); rintro _ _ ⟨rfl, m3, at3, rfl, hb3, hz⟩; obtain rfl := hz rfl; have H3 : Hid (RdAt _ _ _ _ _ _ 0) := hid hb3; clear hb3 hz HT2))
  obtain ⟨F, hF⟩ : ∃ F, F = [p, w.heap.size + 1] := ⟨_, rfl⟩
  have n1 : w.heap.size + 1 ∈ F := by rw [hF]; simp
  have n2 : p ∈ F := by rw [hF]; simp
  have n5 : ¬ (w.heap.size + 1 = p) := by omega
  have n6 : ¬ (w.heap.size = p) := by omega
  have n3 : w.heap.size + 1 + 1 + e1.heap.size ∉ F := by rw [hF]; simp; omega
  have n4 : ¬ (w.heap.size + 1 + 1 + e1.heap.size = p) := by omega
  clear hF
  refine M2.wp_region_mixZ (fun w' => ∃ m : Mut, w' = chg F _ m) [3, 5, 9] 11 (by kernel_rfl) (by kernel_rfl) (by decide) (chg_of (Chg.refl _ _)) ?_
  simp only [List.take_succ_cons, List.take_zero, List.drop_succ_cons, List.drop_zero]
  with_reducible refine M2.mixL_quiet 3 (by kernel_rfl) ?_
  simp only [List.take_succ_cons, List.take_zero, List.drop_succ_cons, List.drop_zero]
  repeat (go_big_quiet_step (fail))
  with_reducible refine wpQuiet_nil ?_
  with_reducible refine M2.mixL_eff (by decide) ?_
  go_wp2_with ((first | (go_at_call 110; (with_reducible refine (HD.out _).mono ?_); rintro _ _ ⟨⟨e2, rfl⟩, rfl⟩) | (go_at_call 114; (with_reducible refine (HT3.out _ (hsl _ (by exact chA)) (by repeat (first | with_reducible exact H3.out | with_reducible refine Blk.alloc ?_ _ | with_reducible refine Blk.drew ?_ | with_reducible refine Blk.on ?_ _ | ((with_reducible refine Blk.chg ?_ (chg_chg _ _ _) ?_); rotate_left; (first | assumption | (focus (simp; done)) | (focus (simp; omega)))) | ((with_reducible refine Blk.set_ne ?_ ?_ _); rotate_left; (first | assumption | (focus (simp; done)) | (focus (simp; omega))))))).mono ?_); rintro _ _ ⟨rfl, m4, at4, rfl, hb4, hz⟩; have H4 := hid hb4; have HZ := hid hz; clear hb4 hz HT3)))
  refine M2.MixQ.mk (chg_of (by exact chA)) ?_
  with_reducible refine M2.mixL_quiet 1 (by kernel_rfl) ?_
  simp only [List.take_succ_cons, List.take_zero, List.drop_succ_cons, List.drop_zero]
  repeat (go_big_quiet_step (fail))
  with_reducible refine wpQuiet_nil ?_
  with_reducible refine M2.mixL_eff (by decide) ?_
  go_wp2_with ((first | (go_at_call 110; (with_reducible refine (HD.out _).mono ?_); rintro _ _ ⟨⟨e2, rfl⟩, rfl⟩) | (go_at_call 114; (with_reducible refine (HT3.out _ (hsl _ (by exact chA)) (by repeat (first | with_reducible exact H3.out | with_reducible refine Blk.alloc ?_ _ | with_reducible refine Blk.drew ?_ | with_reducible refine Blk.on ?_ _ | ((with_reducible refine Blk.chg ?_ (chg_chg _ _ _) ?_); rotate_left; (first | assumption | (focus (simp; done)) | (focus (simp; omega)))) | ((with_reducible refine Blk.set_ne ?_ ?_ _); rotate_left; (first | assumption | (focus (simp; done)) | (focus (simp; omega))))))).mono ?_); rintro _ _ ⟨rfl, m4, at4, rfl, hb4, hz⟩; have H4 := hid hb4; have HZ := hid hz; clear hb4 hz HT3)))
  refine M2.MixQ.mk (chg_of (by exact chA)) ?_
  with_reducible refine M2.mixL_quiet 3 (by kernel_rfl) ?_
  simp only [List.take_succ_cons, List.take_zero, List.drop_succ_cons, List.drop_zero]
  repeat (go_big_quiet_step (fail))
  with_reducible refine wpQuiet_nil ?_
  with_reducible refine M2.mixL_eff (by decide) ?_
  go_wp2_with ((first | (go_at_call 110; (with_reducible refine (HD.out _).mono ?_); rintro _ _ ⟨⟨e2, rfl⟩, rfl⟩) | (go_at_call 114; (with_reducible refine (HT3.out _ (hsl _ (by exact chA)) (by repeat (first | with_reducible exact H3.out | with_reducible refine Blk.alloc ?_ _ | with_reducible refine Blk.drew ?_ | with_reducible refine Blk.on ?_ _ | ((with_reducible refine Blk.chg ?_ (chg_chg _ _ _) ?_); rotate_left; (first | assumption | (focus (simp; done)) | (focus (simp; omega)))) | ((with_reducible refine Blk.set_ne ?_ ?_ _); rotate_left; (first | assumption | (focus (simp; done)) | (focus (simp; omega))))))).mono ?_); rintro _ _ ⟨rfl, m4, at4, rfl, hb4, hz⟩; have H4 := hid hb4; have HZ := hid hz; clear hb4 hz HT3)))
  refine M2.MixQ.mk (chg_of (by exact chA)) ?_
  with_reducible refine M2.mixL_quiet 1 (by kernel_rfl) ?_
  simp only [List.take_succ_cons, List.take_zero, List.drop_succ_cons, List.drop_zero]
  repeat (go_big_quiet_step (fail))
  with_reducible refine wpQuiet_nil ?_
  with_reducible refine M2.mixL_nil ?_
  with_reducible refine M2.mixL_nil ?_
  go_wp2
  (try simp only [Exit.inBlock, Exit.then])
  refine bodyPost_ret (v := ?rv32) ?rh32 rfl ?rp32
  case rh32 => (simp only [results, show Tryz.f116.results = #[.tmp 4, .cell 5 211, .tmp 6] from rfl]; go_simp; rfl)
  exact DfPost.mk (by exact chA) (Blk.on (blk_swap H4.out (by first | exact Nat.le_refl _ | rfl | omega | (simp; done) | (simp; omega)) (by first | exact Nat.le_refl _ | rfl | omega | (simp; done) | (simp; omega)) (by first | exact Nat.le_refl _ | rfl | omega | (simp; done) | (simp; omega))) _) HZ.out rfl

set_option maxRecDepth 100000 in
set_option maxHeartbeats 4000000 in
theorem df_2e (w : World) (p : Nat) (a : Option Addr) (cap : Nat) (l : List Bool) (hsl : ∀ w', Chg [p] w w' → SlB w' a cap (pack l)) (at_ : Int) (h : RdAt w p a cap l at_ 0) (s : Vl) (hs : s.wf) (hl1 : s.lead ≤ 31) (hl2 : s.lead + s.width ≤ 64)
    (n1 n : Int) (e : Nat) (he : e ≠ 0) (hd : TK l a cap p at_ 1 1 n1 0) (hd2 : TK l a cap p n1 1 0 n e) :
    Calls Tryz.prog 116 #[.pointer (some ⟨p, 0, none⟩), s.v] w (DfPost w p a cap l 0 s.lead s.width false n e) := by
  obtain ⟨has, prev, lead, width⟩ := s
  obtain ⟨hs1, hs2, hs3⟩ := hs
  simp only at hs1 hs2 hs3 hl1 hl2 hd ⊢
  have HO := hid (fun W => of_any ⟨has, prev, lead, width⟩ ⟨hs1, hs2, hs3⟩ W)
  have HD := hid (fun W => down_any lead width (by omega) (by omega) W)
  have HT1 := hid hd
  have HT2 := hid hd2
  have hp := h.lt
  have H := hid h
  clear h hd hd2
  go_enter Tryz.func116, Tryz.ntmps116
  go_wp2_with (first | (go_at_call 108; (with_reducible refine (HO.out _).mono ?_); rintro _ _ ⟨⟨e1, rfl⟩, rfl⟩) | (go_at_call 114; (with_reducible refine (HT1.out _ (hsl _ (by exact chA)) (by repeat (first | with_reducible exact H.out | with_reducible refine Blk.alloc ?_ _ | with_reducible refine Blk.drew ?_ | with_reducible refine Blk.on ?_ _ | ((with_reducible refine Blk.chg ?_ (chg_chg _ _ _) ?_); rotate_left; (first | assumption | (focus (simp; done)) | (focus (simp; omega)))) | ((with_reducible refine Blk.set_ne ?_ ?_ _); rotate_left; (first | assumption | (focus (simp; done)) | (focus (simp; omega))))))).mono ?_); rintro _ _ ⟨rfl, m2, at2, rfl, hb2, hz⟩; obtain rfl := hz rfl; have H2 : Hid (RdAt _ _ _ _ _ _ 0) := hid hb2; clear hb2 hz HT1) | (go_at_call 114; (with_reducible refine (HT2.out _ (hsl _ (by exact chA)) (by repeat (first | with_reducible exact H2.out | with_reducible refine Blk.alloc ?_ _ | with_reducible refine Blk.drew ?_ | with_reducible refine Blk.on ?_ _ | ((with_reducible refine Blk.chg ?_ (chg_chg _ _ _) ?_); rotate_left; (first | assumption | (focus (simp; done)) | (focus (simp; omega)))) | ((with_reducible refine Blk.set_ne ?_ ?_ _); rotate_left; (first | assumption | (focus (simp; done)) | (focus (simp; omega))))))).mono ?_); rintro _ _ ⟨rfl, m3, at3, rfl, hb3, hz⟩; have H3 := hid hb3; have HZ := hid hz; clear hb3 hz HT2))
  obtain ⟨F, hF⟩ : ∃ F, F = [p, w.heap.size + 1] := ⟨_, rfl⟩
  have n1 : w.heap.size + 1 ∈ F := by rw [hF]; simp
  have n2 : p ∈ F := by rw [hF]; simp
  have n5 : ¬ (w.heap.size + 1 = p) := by omega
  have n6 : ¬ (w.heap.size = p) := by omega
  have n3 : w.heap.size + 1 + 1 + e1.heap.size ∉ F := by rw [hF]; simp; omega
  have n4 : ¬ (w.heap.size + 1 + 1 + e1.heap.size = p) := by omega
  clear hF
  refine M2.wp_region_mixZ (fun w' => ∃ m : Mut, w' = chg F _ m) [3, 5, 9] 11 (by kernel_rfl) (by kernel_rfl) (by decide) (chg_of (Chg.refl _ _)) ?_
  simp only [List.take_succ_cons, List.take_zero, List.drop_succ_cons, List.drop_zero]
  with_reducible refine M2.mixL_quiet 3 (by kernel_rfl) ?_
  simp only [List.take_succ_cons, List.take_zero, List.drop_succ_cons, List.drop_zero]
  repeat (go_big_quiet_step (fail))
  with_reducible refine wpQuiet_nil ?_
  with_reducible refine M2.mixL_eff (by decide) ?_
  go_wp2_with ((first | (go_at_call 110; (with_reducible refine (HD.out _).mono ?_); rintro _ _ ⟨⟨e2, rfl⟩, rfl⟩) | (go_at_call 114; (with_reducible refine (take_err _ p a cap l at3 e he (by repeat (first | with_reducible exact H3.out | with_reducible refine Blk.alloc ?_ _ | with_reducible refine Blk.drew ?_ | with_reducible refine Blk.on ?_ _ | ((with_reducible refine Blk.chg ?_ (chg_chg _ _ _) ?_); rotate_left; (first | assumption | (focus (simp; done)) | (focus (simp; omega)))) | ((with_reducible refine Blk.set_ne ?_ ?_ _); rotate_left; (first | assumption | (focus (simp; done)) | (focus (simp; omega)))))) _).mono ?_); rintro _ _ ⟨⟨e3, rfl⟩, rfl⟩)))
  refine M2.MixQ.mk (chg_of (by exact chA)) ?_
  with_reducible refine M2.mixL_quiet 1 (by kernel_rfl) ?_
  simp only [List.take_succ_cons, List.take_zero, List.drop_succ_cons, List.drop_zero]
  repeat (go_big_quiet_step (fail))
  with_reducible refine wpQuiet_nil ?_
  with_reducible refine M2.mixL_eff (by decide) ?_
  go_wp2_with ((first | (go_at_call 110; (with_reducible refine (HD.out _).mono ?_); rintro _ _ ⟨⟨e2, rfl⟩, rfl⟩) | (go_at_call 114; (with_reducible refine (take_err _ p a cap l at3 e he (by repeat (first | with_reducible exact H3.out | with_reducible refine Blk.alloc ?_ _ | with_reducible refine Blk.drew ?_ | with_reducible refine Blk.on ?_ _ | ((with_reducible refine Blk.chg ?_ (chg_chg _ _ _) ?_); rotate_left; (first | assumption | (focus (simp; done)) | (focus (simp; omega)))) | ((with_reducible refine Blk.set_ne ?_ ?_ _); rotate_left; (first | assumption | (focus (simp; done)) | (focus (simp; omega)))))) _).mono ?_); rintro _ _ ⟨⟨e3, rfl⟩, rfl⟩)))
  refine M2.MixQ.mk (chg_of (by exact chA)) ?_
  with_reducible refine M2.mixL_quiet 3 (by kernel_rfl) ?_
  simp only [List.take_succ_cons, List.take_zero, List.drop_succ_cons, List.drop_zero]
  repeat (go_big_quiet_step (fail))
  with_reducible refine wpQuiet_nil ?_
  with_reducible refine M2.mixL_eff (by decide) ?_
  go_wp2_with ((first | (go_at_call 110; (with_reducible refine (HD.out _).mono ?_); rintro _ _ ⟨⟨e2, rfl⟩, rfl⟩) | (go_at_call 114; (with_reducible refine (take_err _ p a cap l at3 e he (by repeat (first | with_reducible exact H3.out | with_reducible refine Blk.alloc ?_ _ | with_reducible refine Blk.drew ?_ | with_reducible refine Blk.on ?_ _ | ((with_reducible refine Blk.chg ?_ (chg_chg _ _ _) ?_); rotate_left; (first | assumption | (focus (simp; done)) | (focus (simp; omega)))) | ((with_reducible refine Blk.set_ne ?_ ?_ _); rotate_left; (first | assumption | (focus (simp; done)) | (focus (simp; omega)))))) _).mono ?_); rintro _ _ ⟨⟨e3, rfl⟩, rfl⟩)))
  refine M2.MixQ.mk (chg_of (by exact chA)) ?_
  with_reducible refine M2.mixL_quiet 1 (by kernel_rfl) ?_
  simp only [List.take_succ_cons, List.take_zero, List.drop_succ_cons, List.drop_zero]
  repeat (go_big_quiet_step (fail))
  with_reducible refine wpQuiet_nil ?_
  with_reducible refine M2.mixL_nil ?_
  with_reducible refine M2.mixL_nil ?_
  go_wp2
  (try simp only [Exit.inBlock, Exit.then])
  refine bodyPost_ret (v := ?rv33) ?rh33 rfl ?rp33
  case rh33 => (simp only [results, show Tryz.f116.results = #[.tmp 4, .cell 5 211, .tmp 6] from rfl]; go_simp; rfl)
  exact DfPost.mk (by exact chA) (Blk.on (Blk.on (blk_swap H3.out (by first | exact Nat.le_refl _ | rfl | omega | (simp; done) | (simp; omega)) (by first | exact Nat.le_refl _ | rfl | omega | (simp; done) | (simp; omega)) (by first | exact Nat.le_refl _ | rfl | omega | (simp; done) | (simp; omega))) _) _) HZ.out rfl
end Go.Proofs.YtneeikjiabpjhaaGreatDoor
