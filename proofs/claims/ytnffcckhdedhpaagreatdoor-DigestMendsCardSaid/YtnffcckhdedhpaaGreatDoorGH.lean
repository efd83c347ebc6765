import Derived.Test.YtnffcckhdedhpaaGreatDoorNB
namespace Go.Proofs.YtnffcckhdedhpaaGreatDoor
set_option linter.unusedVariables false
set_option linter.unusedSimpArgs false
set_option maxRecDepth 100000
set_option maxHeartbeats 4000000
section
open Go.RowKit
attribute [local go_sem] odr cdr
abbrev xgV (v : Nat) (n : Int) (t : Vl) (e : Nat) : Value := .tuple #[.int .u64 (v : Nat), .int .i64 n, t.v, .int .u16 (e : Nat)]
theorem xget_new (l : List Bool) (hl : l.length ≤ 800000) (a : Option Addr) (cap : Nat) (at_ : Int) (hat : -9223372036854775808 ≤ at_ ∧ at_ ≤ 9223372036854775807) (s : Vl) (hs : s.wf) (hsd : soundV s = true) (hh : s.has = false) (w : World) (hb : SlB w a cap (pack l)) (res : Value) (v e : Nat) (hg : getN l at_ 64 = (v, e)) (hres : res = if e = 0 then xgV v (at_ + 64) ⟨true, v, 0, 0⟩ 0 else xgV 0 0 Vl.zero e) :
    Calls Tryz.prog 126 #[bv a (pack l).length cap l.length, .int .i64 at_, s.v] w (Ret w res) := by
  have HW := hid (fun W hW => xwrong_any (pack l) pack_lt (pkl (by omega)) l.length (by omega) a cap s hs W hW); rw [spk, hsd, show wrongX true true = 0 from rfl] at HW; have HW' : Hid (∀ W, SlB W a cap (pack l) → Calls Tryz.prog 105 #[bv a (pack l).length cap l.length, s.v] W (Ret W (.int .u16 0))) := HW; clear HW; have HT1 : Hid (∀ p, TK l a cap p at_ 64 v (at_ + 64) e) := hid (fun p => tk_of (by omega) a cap p hat (by decide : 64 ≤ 64) hg); obtain ⟨has, prev, lead, width⟩ := s; simp only at hh; subst hh; obtain ⟨hs1, hs2, hs3⟩ := hs; have HRES := hid hres; clear hres hg
  go_enter Tryz.func126, Tryz.ntmps126; go_wp2_with (go_at_call 105; (with_reducible refine (HW'.out _ (by exact slA hb)).mono ?_); rintro _ _ ⟨⟨e1, rfl⟩, rfl⟩)
  go_at_call 146
  with_reducible refine (HT1.out _ _ (by exact slA hb) (by exact blA)).mono ?_
  rintro _ w2 ⟨rfl, m2, at2, hw, hb2, hz⟩; have H2 := hid hb2; have HZ := hid hz; have hF : ∀ i ∈ [w.heap.size + 1 + 1 + 1 + e1.heap.size], w.heap.size ≤ i := by simp; omega
  have O2 : Hid (∃ e, w2 = over w e) := hid (by rw [hw]; exact ovA); have B8 : Hid (Blk w2 (w.heap.size + 1 + 1) [.bool false, .int .u64 0, .int .u8 0, .int .u8 0] 109) := hid (by rw [hw]; exact (by exact blA)); clear hw hb2 hz HT1 hF; have n8 : ¬ (w.heap.size + 1 + 1 = w.heap.size + 1 + 1 + 1 + e1.heap.size) := by omega
  generalize w.heap.size + 1 + 1 + 1 + e1.heap.size = p at *; have b80 := B8.out.cell 0 rfl; have b81 := B8.out.cell 1 rfl; have b82 := B8.out.cell 2 rfl; have b83 := B8.out.cell 3 rfl; have f80 := B8.out.free 0; have f81 := B8.out.free 1; have f82 := B8.out.free 2; have f83 := B8.out.free 3; have hl8 := B8.out.lt; have r2 := H2.out.cell 2 rfl; have r3 := H2.out.cell 3 rfl; have hp := H2.out.lt; by_cases he : e = 0
  · subst he; obtain rfl := HZ.out rfl; have H2' : Hid (RdAt w2 p a cap l (at_ + 64) 0) := H2; have HE : Hid (∀ W, RdAt W p a cap l (at_ + 64) 0 → Calls Tryz.prog 147 #[.pointer (some ⟨p, 0, none⟩), .int .u64 (v : Nat), .agg #[.bool true, .int .u64 (v : Nat), .int .u8 0, .int .u8 0]] W (Ret W (.tuple #[.int .u64 (v : Nat), .int .i64 (at_ + 64), .agg #[.bool true, .int .u64 (v : Nat), .int .u8 0, .int .u8 0], .int .u16 0]))) := hid (fun W h => end_ok W p a cap l (at_ + 64) h v ⟨true, v, 0, 0⟩); go_wp2_with (go_at_call 147; (with_reducible refine (HE.out _ (by exact rdA H2'.out)).mono ?_); rintro _ _ ⟨⟨e3, rfl⟩, rfl⟩)
    (try simp only [Exit.inBlock, Exit.then])
    refine bodyPost_ret (v := ?rv39) ?rh39 rfl ?rp39
    case rh39 => (simp only [results, show Tryz.f126.results = #[.tmp 6, .tmp 7, .cell 8 109, .tmp 9] from rfl]; go_simp; rfl)
    exact ⟨(ovB O2.out), by rw [HRES.out]; rfl⟩
  · have HE : Hid (∀ W, RdAt W p a cap l at2 e → Calls Tryz.prog 147 #[.pointer (some ⟨p, 0, none⟩), .int .u64 (v : Nat), .agg #[.bool true, .int .u64 (v : Nat), .int .u8 0, .int .u8 0]] W (Ret W (.tuple #[.int .u64 0, .int .i64 0, .agg #[.bool false, .int .u64 0, .int .u8 0, .int .u8 0], .int .u16 (e : Nat)]))) := hid (fun W h => end_err W p a cap l at2 e he h v ⟨true, v, 0, 0⟩); have he' : ((e : Int) == 0) = false := by simp; exact he
    go_wp2_with (go_at_call 147; (with_reducible refine (HE.out _ (by exact rdA H2.out)).mono ?_); rintro _ _ ⟨⟨e3, rfl⟩, rfl⟩)
    (try simp only [Exit.inBlock, Exit.then])
    refine bodyPost_ret (v := ?rv40) ?rh40 rfl ?rp40
    case rh40 => (simp only [results, show Tryz.f126.results = #[.tmp 6, .tmp 7, .cell 8 109, .tmp 9] from rfl]; go_simp; rfl)
    exact ⟨(ovB O2.out), by rw [HRES.out, if_neg he]; rfl⟩
end
section
open Go.RowKit
attribute [local go_sem] odr cdr
abbrev DF (l : List Bool) (a : Option Addr) (cap p : Nat) (at_ : Int) (s : Vl) (d lead size : Nat) (fr : Bool) (n : Int) (e : Nat) : Prop :=
 ∀ w, (∀ w', Chg [p] w w' → SlB w' a cap (pack l)) → RdAt w p a cap l at_ 0 → Calls Tryz.prog 148 #[.pointer (some ⟨p, 0, none⟩), s.v] w (DfPost w p a cap l d lead size fr n e)
theorem xget_e (l : List Bool) (hl : l.length ≤ 800000) (a : Option Addr) (cap : Nat) (at_ : Int) (hat : -9223372036854775808 ≤ at_ ∧ at_ ≤ 9223372036854775807) (s : Vl) (hs : s.wf) (hsd : soundV s = true) (hh : s.has = true) (w : World) (hb : SlB w a cap (pack l))
    (b1 q1 : Nat) (hg : getN l at_ 1 = (b1, q1)) (lead' size' : Nat) (hls : lead' ≤ 64 ∧ size' ≤ 64) (fr : Bool) (n : Int) (e : Nat) (he : e ≠ 0) (hdf : ∀ p, DF l a cap p at_ s 0 lead' size' fr n e) :
    Calls Tryz.prog 126 #[bv a (pack l).length cap l.length, .int .i64 at_, s.v] w (Ret w (xgV 0 0 Vl.zero e)) := by
  have HW := hid (fun W hW => xwrong_any (pack l) pack_lt (pkl (by omega)) l.length (by omega) a cap s hs W hW); rw [spk, hsd, show wrongX true true = 0 from rfl] at HW; have HW' : Hid (∀ W, SlB W a cap (pack l) → Calls Tryz.prog 105 #[bv a (pack l).length cap l.length, s.v] W (Ret W (.int .u16 0))) := HW; clear HW; have HG := hid (fun W hW => bget_any l (by omega) at_ hat 1 (by decide) a cap W hW); rw [hg] at HG; have HG' : Hid (∀ W, SlB W a cap (pack l) → Calls Tryz.prog 144 #[bv a (pack l).length cap l.length, .int .i64 at_, .int .i64 1] W (Ret W (.tuple #[.int .u64 (b1 : Nat), .int .u16 (q1 : Nat)]))) := HG; clear HG hg; obtain ⟨has, prev, lead, width⟩ := s; simp only at hh; subst hh; have HDF := hid hdf; have HO := hid (fun W => of_any ⟨true, prev, lead, width⟩ hs W); obtain ⟨hs1, hs2, hs3⟩ := hs; clear hdf
  go_enter Tryz.func126, Tryz.ntmps126; go_wp2_with (first | (go_at_call 105; (with_reducible refine (HW'.out _ (by exact slA hb)).mono ?_); rintro _ _ ⟨⟨e3, rfl⟩, rfl⟩) | (go_at_call 144; (with_reducible refine (HG'.out _ (by exact slA hb)).mono ?_); rintro _ _ ⟨⟨e4, rfl⟩, rfl⟩))
  go_at_call 148
  have hF : ∀ i ∈ [w.heap.size + 1 + 1 + 1 + e3.heap.size], w.heap.size ≤ i := by simp; omega
  with_reducible refine (HDF.out _ _ (fun w' hc => Sl.chg_old hb (by unfold Ov; exact ovA) hc hF) (by exact blA)).mono ?_
  rintro _ w2 ⟨rfl, m2, at2, hw, hb2, hz⟩; have H2 := hid hb2; have HZ := hid hz; have O2 : Hid (∃ e, w2 = over w e) := hid (by rw [hw]; exact ovA); have B8 : Hid (Blk w2 (w.heap.size + 1 + 1) [.bool false, .int .u64 0, .int .u8 0, .int .u8 0] 109) := hid (by rw [hw]; exact (by exact blA)); have B5 : Hid (Blk w2 (w.heap.size + 1) [.bool true, .int .u64 prev, .int .u8 lead, .int .u8 width] 109) := hid (by rw [hw]; exact (by exact blA)); clear hw hb2 hz HDF hF; have n8 : ¬ (w.heap.size + 1 + 1 = w.heap.size + 1 + 1 + 1 + e3.heap.size) := by omega
  have n5 : ¬ (w.heap.size + 1 = w.heap.size + 1 + 1 + 1 + e3.heap.size) := by omega
  have q5 : w.heap.size ≤ w.heap.size + 1 := by omega
  have q8 : w.heap.size ≤ w.heap.size + 1 + 1 := by omega
  have n58 : ¬ (w.heap.size + 1 = w.heap.size + 1 + 1) := by omega
  have n85 : ¬ (w.heap.size + 1 + 1 = w.heap.size + 1) := by omega
  have qp : w.heap.size ≤ w.heap.size + 1 + 1 + 1 + e3.heap.size := by omega
  generalize w.heap.size + 1 + 1 + 1 + e3.heap.size = p at *; generalize w.heap.size + 1 + 1 = t8 at *; generalize w.heap.size + 1 = t5 at *; have b80 := B8.out.cell 0 rfl; have b81 := B8.out.cell 1 rfl; have b82 := B8.out.cell 2 rfl; have b83 := B8.out.cell 3 rfl; have f80 := B8.out.free 0; have f81 := B8.out.free 1; have f82 := B8.out.free 2; have f83 := B8.out.free 3; have hl8 := B8.out.lt; have b50 := B5.out.cell 0 rfl; have b51 := B5.out.cell 1 rfl; have b52 := B5.out.cell 2 rfl; have b53 := B5.out.cell 3 rfl; have f50 := B5.out.free 0; have f51 := B5.out.free 1; have f52 := B5.out.free 2; have f53 := B5.out.free 3; have hl5 := B5.out.lt; have m51 : ∀ x y, t5 < w2.heap.size + x + y := fun x y => by omega
  have m52 : ∀ x y z, t5 < w2.heap.size + x + y + z := fun x y z => by omega
  have m81 : ∀ x y, t8 < w2.heap.size + x + y := fun x y => by omega
  have m82 : ∀ x y z, t8 < w2.heap.size + x + y + z := fun x y z => by omega
  have r2 := H2.out.cell 2 rfl; have r3 := H2.out.cell 3 rfl; have r3f := H2.out.free 3; have hp := H2.out.lt; have mp1 : ∀ x y, p < w2.heap.size + x + y := fun x y => by omega
  have mp2 : ∀ x y z, p < w2.heap.size + x + y + z := fun x y z => by omega
  have he' : ((e : Int) == 0) = false := by simp; exact he
  have hX0 : bits .xor .u64 (prev : Int) 0 = (prev : Int) := by have := xor64 prev 0 hs1 (by decide); simpa using this
  obtain ⟨hls1, hls2⟩ := hls; cases fr
  · have HE := hid (fun W (h : RdAt W p a cap l at2 e) => end_err W p a cap l at2 e he h prev ⟨true, prev, lead, width⟩); go_wp2_with (go_at_call 147; (with_reducible refine (HE.out _ (by exact rdA H2.out)).mono ?_); rintro _ _ ⟨⟨e5, rfl⟩, rfl⟩)
    (try simp only [Exit.inBlock, Exit.then])
    refine bodyPost_ret (v := ?rv41) ?rh41 rfl ?rp41
    case rh41 => (simp only [results, show Tryz.f126.results = #[.tmp 6, .tmp 7, .cell 8 109, .tmp 9] from rfl]; go_simp; rfl)
    exact ⟨(ovB O2.out), rfl⟩
  · have HE := hid (fun W (h : RdAt W p a cap l at2 e) => end_err W p a cap l at2 e he h prev ⟨true, prev, lead', size'⟩); go_wp2_with fail
    obtain ⟨F, hF⟩ : ∃ F, F = [t5] := ⟨_, rfl⟩; have m1 : t5 ∈ F := by rw [hF]; simp
    have m3 : w2.heap.size ∉ F := by rw [hF]; simp; omega
    clear hF; refine M2.wrz (fun w' => ∃ m : Mut, w' = chg F _ m) [7, 9] 10 (by kernel_rfl) (by kernel_rfl) (by decide) (chg_of (Chg.refl _ _)) ?_; simp only [M2.td]; with_reducible refine M2.mlq 7 (by kernel_rfl) ?_
    simp only [M2.td]; repeat (go_big_quiet_step (fail))
    with_reducible refine wpQuiet_nil ?_
    with_reducible refine M2.mixL_eff (by decide) ?_
    go_wp2_with (fail)
    refine M2.MixQ.mk (chg_of (by exact chA)) ?_; with_reducible refine M2.mlq 1 (by kernel_rfl) ?_
    simp only [M2.td]; repeat (go_big_quiet_step (fail))
    with_reducible refine wpQuiet_nil ?_
    with_reducible refine M2.mixL_eff (by decide) ?_
    go_wp2_with (fail)
    refine M2.MixQ.mk (chg_of (by exact chA)) ?_; with_reducible refine M2.mln ?_
    with_reducible refine M2.mln ?_
    go_wp2_with (go_at_call 147; (with_reducible refine (HE.out _ (by exact rdA H2.out)).mono ?_); rintro _ _ ⟨⟨e5, rfl⟩, rfl⟩)
    (try simp only [Exit.inBlock, Exit.then])
    refine bodyPost_ret (v := ?rv42) ?rh42 rfl ?rp42
    case rh42 => (simp only [results, show Tryz.f126.results = #[.tmp 6, .tmp 7, .cell 8 109, .tmp 9] from rfl]; go_simp; rfl)
    exact ⟨(ovB O2.out), rfl⟩
end
section
open Go.RowKit
attribute [local go_sem] odr cdr
theorem xget_same (l : List Bool) (hl : l.length ≤ 800000) (a : Option Addr) (cap : Nat) (at_ : Int) (hat : -9223372036854775808 ≤ at_ ∧ at_ ≤ 9223372036854775807) (s : Vl) (hs : s.wf) (hsd : soundV s = true) (hh : s.has = true) (w : World) (hb : SlB w a cap (pack l))
    (q1 : Nat) (hg : getN l at_ 1 = (0, q1)) (n : Int) (hdf : ∀ p, DF l a cap p at_ s 0 s.lead s.width false n 0) :
    Calls Tryz.prog 126 #[bv a (pack l).length cap l.length, .int .i64 at_, s.v] w (Ret w (xgV s.prev n s 0)) := by
  have HW := hid (fun W hW => xwrong_any (pack l) pack_lt (pkl (by omega)) l.length (by omega) a cap s hs W hW); rw [spk, hsd, show wrongX true true = 0 from rfl] at HW; have HW' : Hid (∀ W, SlB W a cap (pack l) → Calls Tryz.prog 105 #[bv a (pack l).length cap l.length, s.v] W (Ret W (.int .u16 0))) := HW; clear HW; have HG := hid (fun W hW => bget_any l (by omega) at_ hat 1 (by decide) a cap W hW); rw [hg] at HG; have HG' : Hid (∀ W, SlB W a cap (pack l) → Calls Tryz.prog 144 #[bv a (pack l).length cap l.length, .int .i64 at_, .int .i64 1] W (Ret W (.tuple #[.int .u64 (0 : Nat), .int .u16 (q1 : Nat)]))) := HG; clear HG hg; obtain ⟨has, prev, lead, width⟩ := s; simp only at hh; subst hh; have HDF := hid hdf; have HO := hid (fun W => of_any ⟨true, prev, lead, width⟩ hs W); obtain ⟨hs1, hs2, hs3⟩ := hs; clear hdf
  go_enter Tryz.func126, Tryz.ntmps126; go_wp2_with (first | (go_at_call 105; (with_reducible refine (HW'.out _ (by exact slA hb)).mono ?_); rintro _ _ ⟨⟨e3, rfl⟩, rfl⟩) | (go_at_call 144; (with_reducible refine (HG'.out _ (by exact slA hb)).mono ?_); rintro _ _ ⟨⟨e4, rfl⟩, rfl⟩))
  go_at_call 148
  have hF : ∀ i ∈ [w.heap.size + 1 + 1 + 1 + e3.heap.size], w.heap.size ≤ i := by simp; omega
  with_reducible refine (HDF.out _ _ (fun w' hc => Sl.chg_old hb (by unfold Ov; exact ovA) hc hF) (by exact blA)).mono ?_
  rintro _ w2 ⟨rfl, m2, at2, hw, hb2, hz⟩; have H2 := hid hb2; have HZ := hid hz; have O2 : Hid (∃ e, w2 = over w e) := hid (by rw [hw]; exact ovA); have B8 : Hid (Blk w2 (w.heap.size + 1 + 1) [.bool false, .int .u64 0, .int .u8 0, .int .u8 0] 109) := hid (by rw [hw]; exact (by exact blA)); have B5 : Hid (Blk w2 (w.heap.size + 1) [.bool true, .int .u64 prev, .int .u8 lead, .int .u8 width] 109) := hid (by rw [hw]; exact (by exact blA)); clear hw hb2 hz HDF hF; have n8 : ¬ (w.heap.size + 1 + 1 = w.heap.size + 1 + 1 + 1 + e3.heap.size) := by omega
  have n5 : ¬ (w.heap.size + 1 = w.heap.size + 1 + 1 + 1 + e3.heap.size) := by omega
  have q5 : w.heap.size ≤ w.heap.size + 1 := by omega
  have q8 : w.heap.size ≤ w.heap.size + 1 + 1 := by omega
  have n58 : ¬ (w.heap.size + 1 = w.heap.size + 1 + 1) := by omega
  have n85 : ¬ (w.heap.size + 1 + 1 = w.heap.size + 1) := by omega
  have qp : w.heap.size ≤ w.heap.size + 1 + 1 + 1 + e3.heap.size := by omega
  generalize w.heap.size + 1 + 1 + 1 + e3.heap.size = p at *; generalize w.heap.size + 1 + 1 = t8 at *; generalize w.heap.size + 1 = t5 at *; obtain rfl := HZ.out rfl; have H2' : Hid (RdAt w2 p a cap l at2 0) := H2; clear H2; have H2 := H2'; clear H2'; have b80 := B8.out.cell 0 rfl; have b81 := B8.out.cell 1 rfl; have b82 := B8.out.cell 2 rfl; have b83 := B8.out.cell 3 rfl; have f80 := B8.out.free 0; have f81 := B8.out.free 1; have f82 := B8.out.free 2; have f83 := B8.out.free 3; have hl8 := B8.out.lt; have b50 := B5.out.cell 0 rfl; have b51 := B5.out.cell 1 rfl; have b52 := B5.out.cell 2 rfl; have b53 := B5.out.cell 3 rfl; have f50 := B5.out.free 0; have f51 := B5.out.free 1; have f52 := B5.out.free 2; have f53 := B5.out.free 3; have hl5 := B5.out.lt; have m51 : ∀ x y, t5 < w2.heap.size + x + y := fun x y => by omega
  have m52 : ∀ x y z, t5 < w2.heap.size + x + y + z := fun x y z => by omega
  have m81 : ∀ x y, t8 < w2.heap.size + x + y := fun x y => by omega
  have m82 : ∀ x y z, t8 < w2.heap.size + x + y + z := fun x y z => by omega
  have r2 := H2.out.cell 2 rfl; have r3 := H2.out.cell 3 rfl; have r3f := H2.out.free 3; have hp := H2.out.lt; have mp1 : ∀ x y, p < w2.heap.size + x + y := fun x y => by omega
  have mp2 : ∀ x y z, p < w2.heap.size + x + y + z := fun x y z => by omega
  have hX0 : bits .xor .u64 (prev : Int) 0 = (prev : Int) := by have := xor64 prev 0 hs1 (by decide); simpa using this
  have HE := hid (fun W (h : RdAt W p a cap l at2 0) => end_ok W p a cap l at2 h prev ⟨true, prev, lead, width⟩); go_wp2_with (first | (go_at_call 129; (with_reducible refine (HO.out _).mono ?_); rintro _ _ ⟨⟨e6, rfl⟩, rfl⟩) | (go_at_call 147; (with_reducible refine (HE.out _ (by exact rdA H2.out)).mono ?_); rintro _ _ ⟨⟨e5, rfl⟩, rfl⟩))
  (try simp only [Exit.inBlock, Exit.then])
  refine bodyPost_ret (v := ?rv43) ?rh43 rfl ?rp43
  case rh43 => (simp only [results, show Tryz.f126.results = #[.tmp 6, .tmp 7, .cell 8 109, .tmp 9] from rfl]; go_simp; rfl)
  exact ⟨(ovB O2.out), rfl⟩
end
section
open Go.RowKit
attribute [local go_sem] odr cdr
theorem xget_in (l : List Bool) (hl : l.length ≤ 800000) (a : Option Addr) (cap : Nat) (at_ : Int) (hat : -9223372036854775808 ≤ at_ ∧ at_ ≤ 9223372036854775807) (s : Vl) (hs : s.wf) (hsd : soundV s = true) (hh : s.has = true) (w : World) (hb : SlB w a cap (pack l))
    (q1 : Nat) (hg : getN l at_ 1 = (1, q1)) (n : Int) (d : Nat) (hd : d < 18446744073709551616) (h0 : d ≠ 0) (hdf : ∀ p, DF l a cap p at_ s d s.lead s.width false n 0) :
    Calls Tryz.prog 126 #[bv a (pack l).length cap l.length, .int .i64 at_, s.v] w (Ret w (xgV (s.prev ^^^ d) n { s with prev := s.prev ^^^ d } 0)) := by
  have HW := hid (fun W hW => xwrong_any (pack l) pack_lt (pkl (by omega)) l.length (by omega) a cap s hs W hW); rw [spk, hsd, show wrongX true true = 0 from rfl] at HW; have HW' : Hid (∀ W, SlB W a cap (pack l) → Calls Tryz.prog 105 #[bv a (pack l).length cap l.length, s.v] W (Ret W (.int .u16 0))) := HW; clear HW; have HG := hid (fun W hW => bget_any l (by omega) at_ hat 1 (by decide) a cap W hW); rw [hg] at HG; have HG' : Hid (∀ W, SlB W a cap (pack l) → Calls Tryz.prog 144 #[bv a (pack l).length cap l.length, .int .i64 at_, .int .i64 1] W (Ret W (.tuple #[.int .u64 (1 : Nat), .int .u16 (q1 : Nat)]))) := HG; clear HG hg; obtain ⟨has, prev, lead, width⟩ := s; simp only at hh; subst hh; have HDF := hid hdf; have HO := hid (fun W => of_any ⟨true, prev, lead, width⟩ hs W); obtain ⟨hs1, hs2, hs3⟩ := hs; clear hdf
  go_enter Tryz.func126, Tryz.ntmps126; go_wp2_with (first | (go_at_call 105; (with_reducible refine (HW'.out _ (by exact slA hb)).mono ?_); rintro _ _ ⟨⟨e3, rfl⟩, rfl⟩) | (go_at_call 144; (with_reducible refine (HG'.out _ (by exact slA hb)).mono ?_); rintro _ _ ⟨⟨e4, rfl⟩, rfl⟩))
  go_at_call 148
  have hF : ∀ i ∈ [w.heap.size + 1 + 1 + 1 + e3.heap.size], w.heap.size ≤ i := by simp; omega
  with_reducible refine (HDF.out _ _ (fun w' hc => Sl.chg_old hb (by unfold Ov; exact ovA) hc hF) (by exact blA)).mono ?_
  rintro _ w2 ⟨rfl, m2, at2, hw, hb2, hz⟩; have H2 := hid hb2; have HZ := hid hz; have O2 : Hid (∃ e, w2 = over w e) := hid (by rw [hw]; exact ovA); have B8 : Hid (Blk w2 (w.heap.size + 1 + 1) [.bool false, .int .u64 0, .int .u8 0, .int .u8 0] 109) := hid (by rw [hw]; exact (by exact blA)); have B5 : Hid (Blk w2 (w.heap.size + 1) [.bool true, .int .u64 prev, .int .u8 lead, .int .u8 width] 109) := hid (by rw [hw]; exact (by exact blA)); clear hw hb2 hz HDF hF; have n8 : ¬ (w.heap.size + 1 + 1 = w.heap.size + 1 + 1 + 1 + e3.heap.size) := by omega
  have n5 : ¬ (w.heap.size + 1 = w.heap.size + 1 + 1 + 1 + e3.heap.size) := by omega
  have q5 : w.heap.size ≤ w.heap.size + 1 := by omega
  have q8 : w.heap.size ≤ w.heap.size + 1 + 1 := by omega
  have n58 : ¬ (w.heap.size + 1 = w.heap.size + 1 + 1) := by omega
  have n85 : ¬ (w.heap.size + 1 + 1 = w.heap.size + 1) := by omega
  have qp : w.heap.size ≤ w.heap.size + 1 + 1 + 1 + e3.heap.size := by omega
  generalize w.heap.size + 1 + 1 + 1 + e3.heap.size = p at *; generalize w.heap.size + 1 + 1 = t8 at *; generalize w.heap.size + 1 = t5 at *; obtain rfl := HZ.out rfl; have H2' : Hid (RdAt w2 p a cap l at2 0) := H2; clear H2; have H2 := H2'; clear H2'; have b80 := B8.out.cell 0 rfl; have b81 := B8.out.cell 1 rfl; have b82 := B8.out.cell 2 rfl; have b83 := B8.out.cell 3 rfl; have f80 := B8.out.free 0; have f81 := B8.out.free 1; have f82 := B8.out.free 2; have f83 := B8.out.free 3; have hl8 := B8.out.lt; have b50 := B5.out.cell 0 rfl; have b51 := B5.out.cell 1 rfl; have b52 := B5.out.cell 2 rfl; have b53 := B5.out.cell 3 rfl; have f50 := B5.out.free 0; have f51 := B5.out.free 1; have f52 := B5.out.free 2; have f53 := B5.out.free 3; have hl5 := B5.out.lt; have m51 : ∀ x y, t5 < w2.heap.size + x + y := fun x y => by omega
  have m52 : ∀ x y z, t5 < w2.heap.size + x + y + z := fun x y z => by omega
  have m81 : ∀ x y, t8 < w2.heap.size + x + y := fun x y => by omega
  have m82 : ∀ x y z, t8 < w2.heap.size + x + y + z := fun x y z => by omega
  have r2 := H2.out.cell 2 rfl; have r3 := H2.out.cell 3 rfl; have r3f := H2.out.free 3; have hp := H2.out.lt; have mp1 : ∀ x y, p < w2.heap.size + x + y := fun x y => by omega
  have mp2 : ∀ x y z, p < w2.heap.size + x + y + z := fun x y z => by omega
  have hX := xor64 prev d hs1 hd; have h0' : ((d : Int) == 0) = false := by simp; omega
  obtain ⟨Y, hY⟩ : ∃ Y, prev ^^^ d = Y := ⟨_, rfl⟩; rw [hY] at hX; have HY := hid hY; clear hY; have HE := hid (fun W (h : RdAt W p a cap l at2 0) => end_ok W p a cap l at2 h Y ⟨true, Y, lead, width⟩); go_wp2_with (first | (go_at_call 129; (with_reducible refine (HO.out _).mono ?_); rintro _ _ ⟨⟨e6, rfl⟩, rfl⟩) | (go_at_call 147; (with_reducible refine (HE.out _ (by exact rdA H2.out)).mono ?_); rintro _ _ ⟨⟨e5, rfl⟩, rfl⟩))
  refine M2.wrm [4, 8] 13 (by kernel_rfl) (by kernel_rfl) (by decide) ?_; simp only [M2.td]; with_reducible refine M2.mlq 4 (by kernel_rfl) ?_
  simp only [M2.td]; repeat (go_big_quiet_step (fail))
  with_reducible refine wpQuiet_nil ?_
  with_reducible refine M2.mixL_eff (by decide) ?_
  go_wp2_with (fail)
  refine M2.MixQ.mk ovA ?_; with_reducible refine M2.mlq 3 (by kernel_rfl) ?_
  simp only [M2.td]; repeat (go_big_quiet_step (fail))
  with_reducible refine wpQuiet_nil ?_
  with_reducible refine M2.mixL_eff (by decide) ?_
  go_wp2_with (fail)
  refine M2.MixQ.mk ovA ?_; with_reducible refine M2.mlq 4 (by kernel_rfl) ?_
  simp only [M2.td]; repeat (go_big_quiet_step (fail))
  with_reducible refine wpQuiet_nil ?_
  with_reducible refine M2.mln ?_
  with_reducible refine M2.mln ?_
  go_wp2_with (first | (go_at_call 129; (with_reducible refine (HO.out _).mono ?_); rintro _ _ ⟨⟨e6, rfl⟩, rfl⟩) | (go_at_call 147; (with_reducible refine (HE.out _ (by exact rdA H2.out)).mono ?_); rintro _ _ ⟨⟨e5, rfl⟩, rfl⟩))
  (try simp only [Exit.inBlock, Exit.then])
  refine bodyPost_ret (v := ?rv44) ?rh44 rfl ?rp44
  case rh44 => (simp only [results, show Tryz.f126.results = #[.tmp 6, .tmp 7, .cell 8 109, .tmp 9] from rfl]; go_simp; rfl)
  exact ⟨(ovB O2.out), by have := HY.out; subst this; rfl⟩
end
section
open Go.RowKit
attribute [local go_sem] odr cdr
theorem xget_in0 (l : List Bool) (hl : l.length ≤ 800000) (a : Option Addr) (cap : Nat) (at_ : Int) (hat : -9223372036854775808 ≤ at_ ∧ at_ ≤ 9223372036854775807) (s : Vl) (hs : s.wf) (hsd : soundV s = true) (hh : s.has = true) (w : World) (hb : SlB w a cap (pack l))
    (q1 : Nat) (hg : getN l at_ 1 = (1, q1)) (n : Int) (hdf : ∀ p, DF l a cap p at_ s 0 s.lead s.width false n 0) :
    Calls Tryz.prog 126 #[bv a (pack l).length cap l.length, .int .i64 at_, s.v] w (Ret w (xgV 0 0 Vl.zero 30)) := by
  have HW := hid (fun W hW => xwrong_any (pack l) pack_lt (pkl (by omega)) l.length (by omega) a cap s hs W hW); rw [spk, hsd, show wrongX true true = 0 from rfl] at HW; have HW' : Hid (∀ W, SlB W a cap (pack l) → Calls Tryz.prog 105 #[bv a (pack l).length cap l.length, s.v] W (Ret W (.int .u16 0))) := HW; clear HW; have HG := hid (fun W hW => bget_any l (by omega) at_ hat 1 (by decide) a cap W hW); rw [hg] at HG; have HG' : Hid (∀ W, SlB W a cap (pack l) → Calls Tryz.prog 144 #[bv a (pack l).length cap l.length, .int .i64 at_, .int .i64 1] W (Ret W (.tuple #[.int .u64 (1 : Nat), .int .u16 (q1 : Nat)]))) := HG; clear HG hg; obtain ⟨has, prev, lead, width⟩ := s; simp only at hh; subst hh; have HDF := hid hdf; have HO := hid (fun W => of_any ⟨true, prev, lead, width⟩ hs W); obtain ⟨hs1, hs2, hs3⟩ := hs; clear hdf
  go_enter Tryz.func126, Tryz.ntmps126; go_wp2_with (first | (go_at_call 105; (with_reducible refine (HW'.out _ (by exact slA hb)).mono ?_); rintro _ _ ⟨⟨e3, rfl⟩, rfl⟩) | (go_at_call 144; (with_reducible refine (HG'.out _ (by exact slA hb)).mono ?_); rintro _ _ ⟨⟨e4, rfl⟩, rfl⟩))
  go_at_call 148
  have hF : ∀ i ∈ [w.heap.size + 1 + 1 + 1 + e3.heap.size], w.heap.size ≤ i := by simp; omega
  with_reducible refine (HDF.out _ _ (fun w' hc => Sl.chg_old hb (by unfold Ov; exact ovA) hc hF) (by exact blA)).mono ?_
  rintro _ w2 ⟨rfl, m2, at2, hw, hb2, hz⟩; have H2 := hid hb2; have HZ := hid hz; have O2 : Hid (∃ e, w2 = over w e) := hid (by rw [hw]; exact ovA); have B8 : Hid (Blk w2 (w.heap.size + 1 + 1) [.bool false, .int .u64 0, .int .u8 0, .int .u8 0] 109) := hid (by rw [hw]; exact (by exact blA)); have B5 : Hid (Blk w2 (w.heap.size + 1) [.bool true, .int .u64 prev, .int .u8 lead, .int .u8 width] 109) := hid (by rw [hw]; exact (by exact blA)); clear hw hb2 hz HDF hF; have n8 : ¬ (w.heap.size + 1 + 1 = w.heap.size + 1 + 1 + 1 + e3.heap.size) := by omega
  have n5 : ¬ (w.heap.size + 1 = w.heap.size + 1 + 1 + 1 + e3.heap.size) := by omega
  have q5 : w.heap.size ≤ w.heap.size + 1 := by omega
  have q8 : w.heap.size ≤ w.heap.size + 1 + 1 := by omega
  have n58 : ¬ (w.heap.size + 1 = w.heap.size + 1 + 1) := by omega
  have n85 : ¬ (w.heap.size + 1 + 1 = w.heap.size + 1) := by omega
  have qp : w.heap.size ≤ w.heap.size + 1 + 1 + 1 + e3.heap.size := by omega
  generalize w.heap.size + 1 + 1 + 1 + e3.heap.size = p at *; generalize w.heap.size + 1 + 1 = t8 at *; generalize w.heap.size + 1 = t5 at *; obtain rfl := HZ.out rfl; have H2' : Hid (RdAt w2 p a cap l at2 0) := H2; clear H2; have H2 := H2'; clear H2'; have b80 := B8.out.cell 0 rfl; have b81 := B8.out.cell 1 rfl; have b82 := B8.out.cell 2 rfl; have b83 := B8.out.cell 3 rfl; have f80 := B8.out.free 0; have f81 := B8.out.free 1; have f82 := B8.out.free 2; have f83 := B8.out.free 3; have hl8 := B8.out.lt; have b50 := B5.out.cell 0 rfl; have b51 := B5.out.cell 1 rfl; have b52 := B5.out.cell 2 rfl; have b53 := B5.out.cell 3 rfl; have f50 := B5.out.free 0; have f51 := B5.out.free 1; have f52 := B5.out.free 2; have f53 := B5.out.free 3; have hl5 := B5.out.lt; have m51 : ∀ x y, t5 < w2.heap.size + x + y := fun x y => by omega
  have m52 : ∀ x y z, t5 < w2.heap.size + x + y + z := fun x y z => by omega
  have m81 : ∀ x y, t8 < w2.heap.size + x + y := fun x y => by omega
  have m82 : ∀ x y z, t8 < w2.heap.size + x + y + z := fun x y z => by omega
  have r2 := H2.out.cell 2 rfl; have r3 := H2.out.cell 3 rfl; have r3f := H2.out.free 3; have hp := H2.out.lt; have mp1 : ∀ x y, p < w2.heap.size + x + y := fun x y => by omega
  have mp2 : ∀ x y z, p < w2.heap.size + x + y + z := fun x y z => by omega
  have hX0 : bits .xor .u64 (prev : Int) 0 = (prev : Int) := by have := xor64 prev 0 hs1 (by decide); simpa using this
  have HE := hid (fun W (h : RdAt W p a cap l at2 ((30 : Nat) : Int)) => end_err W p a cap l at2 30 (by decide) h prev ⟨true, prev, lead, width⟩); have H6 : Hid (∀ W, Blk W p (([.slice a (pack l).length cap, .int .i64 (l.length : Nat), .int .i64 at2, .int .u16 0] : List Value).set 3 (.int .u16 30)) 248 → RdAt W p a cap l at2 ((30 : Nat) : Int)) := hid (fun W h => h); go_wp2_with (first | (go_at_call 129; (with_reducible refine (HO.out _).mono ?_); rintro _ _ ⟨⟨e6, rfl⟩, rfl⟩) | (go_at_call 147; (with_reducible refine (HE.out _ (H6.out _ (by repeat (first | with_reducible exact H2.out | with_reducible refine Blk.alloc ?_ _ | with_reducible refine Blk.drew ?_ | with_reducible refine Blk.on ?_ _ | with_reducible refine Blk.set ?_ _ _ | ((with_reducible refine Blk.set_ne ?_ ?_ _); rotate_left; (first | (focus (simp; done)) | (focus (simp; omega)))))))).mono ?_); rintro _ _ ⟨⟨e5, rfl⟩, rfl⟩))
  (try simp only [Exit.inBlock, Exit.then])
  refine bodyPost_ret (v := ?rv45) ?rh45 rfl ?rp45
  case rh45 => (simp only [results, show Tryz.f126.results = #[.tmp 6, .tmp 7, .cell 8 109, .tmp 9] from rfl]; go_simp; rfl)
  exact ⟨(ovB O2.out), rfl⟩
end
section
open Go.RowKit
attribute [local go_sem] odr cdr
theorem xget_new0 (l : List Bool) (hl : l.length ≤ 800000) (a : Option Addr) (cap : Nat) (at_ : Int) (hat : -9223372036854775808 ≤ at_ ∧ at_ ≤ 9223372036854775807) (s : Vl) (hs : s.wf) (hsd : soundV s = true) (hh : s.has = true) (w : World) (hT : TabW w) (hb : SlB w a cap (pack l))
    (q1 : Nat) (hg : getN l at_ 1 = (1, q1)) (n : Int) (L Z : Nat) (hLZ : L ≤ 64 ∧ Z ≤ 64) (hdf : ∀ p, DF l a cap p at_ s 0 L Z true n 0) :
    Calls Tryz.prog 126 #[bv a (pack l).length cap l.length, .int .i64 at_, s.v] w (Ret w (xgV 0 0 Vl.zero 30)) := by
  have HW := hid (fun W hW => xwrong_any (pack l) pack_lt (pkl (by omega)) l.length (by omega) a cap s hs W hW); rw [spk, hsd, show wrongX true true = 0 from rfl] at HW; have HW' : Hid (∀ W, SlB W a cap (pack l) → Calls Tryz.prog 105 #[bv a (pack l).length cap l.length, s.v] W (Ret W (.int .u16 0))) := HW; clear HW; have HG := hid (fun W hW => bget_any l (by omega) at_ hat 1 (by decide) a cap W hW); rw [hg] at HG; have HG' : Hid (∀ W, SlB W a cap (pack l) → Calls Tryz.prog 144 #[bv a (pack l).length cap l.length, .int .i64 at_, .int .i64 1] W (Ret W (.tuple #[.int .u64 (1 : Nat), .int .u16 (q1 : Nat)]))) := HG; clear HG hg; obtain ⟨has, prev, lead, width⟩ := s; simp only at hh; subst hh; have HDF := hid hdf; have HO := hid (fun W => of_any ⟨true, prev, lead, width⟩ hs W); obtain ⟨hs1, hs2, hs3⟩ := hs; clear hdf
  go_enter Tryz.func126, Tryz.ntmps126; go_wp2_with (first | (go_at_call 105; (with_reducible refine (HW'.out _ (by exact slA hb)).mono ?_); rintro _ _ ⟨⟨e3, rfl⟩, rfl⟩) | (go_at_call 144; (with_reducible refine (HG'.out _ (by exact slA hb)).mono ?_); rintro _ _ ⟨⟨e4, rfl⟩, rfl⟩))
  go_at_call 148
  have hF : ∀ i ∈ [w.heap.size + 1 + 1 + 1 + e3.heap.size], w.heap.size ≤ i := by simp; omega
  with_reducible refine (HDF.out _ _ (fun w' hc => Sl.chg_old hb (by unfold Ov; exact ovA) hc hF) (by exact blA)).mono ?_
  rintro _ w2 ⟨rfl, m2, at2, hw, hb2, hz⟩; have H2 := hid hb2; have HZ := hid hz; have O2 : Hid (∃ e, w2 = over w e) := hid (by rw [hw]; exact ovA); have B8 : Hid (Blk w2 (w.heap.size + 1 + 1) [.bool false, .int .u64 0, .int .u8 0, .int .u8 0] 109) := hid (by rw [hw]; exact (by exact blA)); have B5 : Hid (Blk w2 (w.heap.size + 1) [.bool true, .int .u64 prev, .int .u8 lead, .int .u8 width] 109) := hid (by rw [hw]; exact (by exact blA)); clear hw hb2 hz HDF hF; have n8 : ¬ (w.heap.size + 1 + 1 = w.heap.size + 1 + 1 + 1 + e3.heap.size) := by omega
  have n5 : ¬ (w.heap.size + 1 = w.heap.size + 1 + 1 + 1 + e3.heap.size) := by omega
  have q5 : w.heap.size ≤ w.heap.size + 1 := by omega
  have q8 : w.heap.size ≤ w.heap.size + 1 + 1 := by omega
  have n58 : ¬ (w.heap.size + 1 = w.heap.size + 1 + 1) := by omega
  have n85 : ¬ (w.heap.size + 1 + 1 = w.heap.size + 1) := by omega
  have qp : w.heap.size ≤ w.heap.size + 1 + 1 + 1 + e3.heap.size := by omega
  generalize w.heap.size + 1 + 1 + 1 + e3.heap.size = p at *; generalize w.heap.size + 1 + 1 = t8 at *; generalize w.heap.size + 1 = t5 at *; obtain rfl := HZ.out rfl; have H2' : Hid (RdAt w2 p a cap l at2 0) := H2; clear H2; have H2 := H2'; clear H2'; have b80 := B8.out.cell 0 rfl; have b81 := B8.out.cell 1 rfl; have b82 := B8.out.cell 2 rfl; have b83 := B8.out.cell 3 rfl; have f80 := B8.out.free 0; have f81 := B8.out.free 1; have f82 := B8.out.free 2; have f83 := B8.out.free 3; have hl8 := B8.out.lt; have b50 := B5.out.cell 0 rfl; have b51 := B5.out.cell 1 rfl; have b52 := B5.out.cell 2 rfl; have b53 := B5.out.cell 3 rfl; have f50 := B5.out.free 0; have f51 := B5.out.free 1; have f52 := B5.out.free 2; have f53 := B5.out.free 3; have hl5 := B5.out.lt; have m51 : ∀ x y, t5 < w2.heap.size + x + y := fun x y => by omega
  have m52 : ∀ x y z, t5 < w2.heap.size + x + y + z := fun x y z => by omega
  have m81 : ∀ x y, t8 < w2.heap.size + x + y := fun x y => by omega
  have m82 : ∀ x y z, t8 < w2.heap.size + x + y + z := fun x y z => by omega
  have r2 := H2.out.cell 2 rfl; have r3 := H2.out.cell 3 rfl; have r3f := H2.out.free 3; have hp := H2.out.lt; have mp1 : ∀ x y, p < w2.heap.size + x + y := fun x y => by omega
  have mp2 : ∀ x y z, p < w2.heap.size + x + y + z := fun x y z => by omega
  obtain ⟨hL, hZ⟩ := hLZ; have hX0 : bits .xor .u64 (prev : Int) 0 = (prev : Int) := by have := xor64 prev 0 hs1 (by decide); simpa using this
  have HE := hid (fun W (h : RdAt W p a cap l at2 ((30 : Nat) : Int)) => end_err W p a cap l at2 30 (by decide) h prev ⟨true, prev, L, Z⟩); have H6 : Hid (∀ W, Blk W p (([.slice a (pack l).length cap, .int .i64 (l.length : Nat), .int .i64 at2, .int .u16 0] : List Value).set 3 (.int .u16 30)) 248 → RdAt W p a cap l at2 ((30 : Nat) : Int)) := hid (fun W h => h); go_wp2_with (go_at_call 129; (with_reducible refine (HO.out _).mono ?_); rintro _ _ ⟨⟨e6, rfl⟩, rfl⟩)
  obtain ⟨F, hF⟩ : ∃ F, F = [t5] := ⟨_, rfl⟩; have m1 : t5 ∈ F := by rw [hF]; simp
  have m3 : w2.heap.size ∉ F := by rw [hF]; simp; omega
  clear hF; refine M2.wrz (fun w' => ∃ m : Mut, w' = chg F _ m) [7, 9] 10 (by kernel_rfl) (by kernel_rfl) (by decide) (chg_of (Chg.refl _ _)) ?_; simp only [M2.td]; with_reducible refine M2.mlq 7 (by kernel_rfl) ?_
  simp only [M2.td]; repeat (go_big_quiet_step (fail))
  with_reducible refine wpQuiet_nil ?_
  with_reducible refine M2.mixL_eff (by decide) ?_
  go_wp2_with (fail)
  refine M2.MixQ.mk (chg_of (by exact chA)) ?_; with_reducible refine M2.mlq 1 (by kernel_rfl) ?_
  simp only [M2.td]; repeat (go_big_quiet_step (fail))
  with_reducible refine wpQuiet_nil ?_
  with_reducible refine M2.mixL_eff (by decide) ?_
  go_wp2_with (fail)
  refine M2.MixQ.mk (chg_of (by exact chA)) ?_; with_reducible refine M2.mln ?_
  with_reducible refine M2.mln ?_
  go_wp2_with (go_at_call 147; (with_reducible refine (HE.out _ (H6.out _ (by repeat (first | with_reducible exact H2.out | with_reducible refine Blk.alloc ?_ _ | with_reducible refine Blk.drew ?_ | with_reducible refine Blk.on ?_ _ | with_reducible refine Blk.set ?_ _ _ | ((with_reducible refine Blk.set_ne ?_ ?_ _); rotate_left; (first | (focus (simp; done)) | (focus (simp; omega)))))))).mono ?_); rintro _ _ ⟨⟨e5, rfl⟩, rfl⟩)
  (try simp only [Exit.inBlock, Exit.then])
  refine bodyPost_ret (v := ?rv46) ?rh46 rfl ?rp46
  case rh46 => (simp only [results, show Tryz.f126.results = #[.tmp 6, .tmp 7, .cell 8 109, .tmp 9] from rfl]; go_simp; rfl)
  exact ⟨(ovB O2.out), rfl⟩
end
end Go.Proofs.YtnffcckhdedhpaaGreatDoor
