/- Walks: xor.Get. -/
import Derived.Test.YthljlajdkdgieaaDoorXorE
namespace Go.Proofs.YthljlajdkdgieaaDoor
set_option linter.unusedVariables false
set_option linter.unusedSimpArgs false
open Go.RowKit
attribute [local go_sem] over_drew chg_drew

abbrev xgV (v : Nat) (n : Int) (t : Vl) (e : Nat) : Value := .tuple #[.int .u64 (v : Nat), .int .i64 n, t.v, .int .u16 (e : Nat)]

set_option maxRecDepth 100000 in
set_option maxHeartbeats 2000000 in
theorem xget_no (bs : List Nat) (hbs : ∀ b ∈ bs, b < 256) (hl : bs.length ≤ 1000000) (N : Int) (hN : -9223372036854775808 ≤ N ∧ N ≤ 9223372036854775807) (a : Option Addr) (cap : Nat) (at_ : Int) (s : Vl) (hs : s.wf) (w : World) (hb : SlB w a cap bs)
    (hn : ¬ wrongX (soundB bs N) (soundV s) = 0) : Calls Tryd.prog 31 #[bv a bs.length cap N, .int .i64 at_, s.v] w (Ret w (xgV 0 0 Vl.zero (wrongX (soundB bs N) (soundV s)))) := by
  have HW := hid (fun W hW => xwrong_any bs hbs hl N hN a cap s hs W hW)
  generalize wrongX (soundB bs N) (soundV s) = e at *
  have hn' : ((e : Int) != 0) = true := by simp; exact hn
  go_enter Tryd.func31, Tryd.ntmps31
  go_wp2_with (go_at_call 43; (with_reducible refine (HW.out _ (by repeat (first | with_reducible exact hb | with_reducible refine Sl.over ?_ _ | with_reducible refine Sl.alloc ?_ _ | with_reducible refine Sl.drew ?_ | exact hb))).mono ?_); rintro _ _ ⟨⟨e1, rfl⟩, rfl⟩)
  (try simp only [Exit.inBlock, Exit.then])
  refine bodyPost_ret (v := ?rv21) ?rh21 rfl ?rp21
  case rh21 => (simp only [results, show Tryd.f31.results = #[.tmp 6, .tmp 7, .cell 8 24, .tmp 9] from rfl]; go_simp; rfl)
  exact ⟨(by (try unfold Ov); repeat (first | with_reducible exact ex_over | with_reducible exact over_self _ | with_reducible refine ex_undrew ?_ | with_reducible refine ex_into ?_ _ | with_reducible refine ex_alloc ?_ _ | with_reducible refine ex_drew ?_ | ((with_reducible refine ex_setCell ?_ ?_ _); rotate_left; (first | omega | (focus (simp; done)) | (focus (simp; omega)))) | ((with_reducible refine ex_chg ?_ _ ?_); rotate_left; (first | assumption | (exact Hid.out (by assumption)))) | exact ex_over)), rfl⟩

set_option maxRecDepth 100000 in
set_option maxHeartbeats 4000000 in
/-- Nothing is known yet. -/
theorem xget_new (l : List Bool) (hl : l.length ≤ 800000) (a : Option Addr) (cap : Nat) (at_ : Int) (hat : -9223372036854775808 ≤ at_ ∧ at_ ≤ 9223372036854775807) (s : Vl) (hs : s.wf) (hsd : soundV s = true) (hh : s.has = false) (w : World) (hb : SlB w a cap (pack l)) (res : Value) (v e : Nat) (hg : getN l at_ 64 = (v, e)) (hres : res = if e = 0 then xgV v (at_ + 64) ⟨true, v, 0, 0⟩ 0 else xgV 0 0 Vl.zero e) :
    Calls Tryd.prog 31 #[bv a (pack l).length cap l.length, .int .i64 at_, s.v] w (Ret w res) := by
  have HW := hid (fun W hW => xwrong_any (pack l) pack_lt (pack_len_le (by omega)) l.length (by omega) a cap s hs W hW)
  rw [sound_pack, hsd, show wrongX true true = 0 from rfl] at HW
  have HW' : Hid (∀ W, SlB W a cap (pack l) → Calls Tryd.prog 43 #[bv a (pack l).length cap l.length, s.v] W (Ret W (.int .u16 0))) := HW
  clear HW
  have HT1 : Hid (∀ p, TK l a cap p at_ 64 v (at_ + 64) e) := hid (fun p => tk_of (by omega) a cap p hat (by decide : 64 ≤ 64) hg)
  obtain ⟨has, prev, lead, width⟩ := s
  simp only at hh
  subst hh
  obtain ⟨hs1, hs2, hs3⟩ := hs
  have HRES := hid hres
  clear hres hg
  go_enter Tryd.func31, Tryd.ntmps31
  go_wp2_with (go_at_call 43; (with_reducible refine (HW'.out _ (by repeat (first | with_reducible exact hb | with_reducible refine Sl.over ?_ _ | with_reducible refine Sl.alloc ?_ _ | with_reducible refine Sl.drew ?_ | exact hb))).mono ?_); rintro _ _ ⟨⟨e1, rfl⟩, rfl⟩)
  go_at_call 55
  with_reducible refine (HT1.out _ _ (by repeat (first | with_reducible exact hb | with_reducible refine Sl.over ?_ _ | with_reducible refine Sl.alloc ?_ _ | with_reducible refine Sl.drew ?_ | exact hb)) (by repeat (first | exact Blk.new' (by simp; done) | exact Blk.new' rfl | with_reducible assumption | with_reducible refine Blk.alloc ?_ _ | with_reducible refine Blk.drew ?_ | with_reducible refine Blk.on ?_ _ | ((with_reducible refine Blk.chg ?_ (chg_chg _ _ _) ?_); rotate_left; (first | assumption | (focus (simp; done)) | (focus (simp; omega))))))).mono ?_
  rintro _ w2 ⟨rfl, m2, at2, hw, hb2, hz⟩
  have H2 := hid hb2
  have HZ := hid hz
  have hF : ∀ i ∈ [w.heap.size + 1 + 1 + 1 + e1.heap.size], w.heap.size ≤ i := by simp; omega
  have O2 : Hid (∃ e, w2 = over w e) := hid (by rw [hw]; exact (by (try unfold Ov); repeat (first | with_reducible exact ex_over | with_reducible exact over_self _ | with_reducible refine ex_undrew ?_ | with_reducible refine ex_into ?_ _ | with_reducible refine ex_alloc ?_ _ | with_reducible refine ex_drew ?_ | ((with_reducible refine ex_setCell ?_ ?_ _); rotate_left; (first | omega | (focus (simp; done)) | (focus (simp; omega)))) | ((with_reducible refine ex_chg ?_ _ ?_); rotate_left; (first | assumption | (exact Hid.out (by assumption)))) | exact ex_over)))
  have B8 : Hid (Blk w2 (w.heap.size + 1 + 1) [.bool false, .int .u64 0, .int .u8 0, .int .u8 0] 24) := hid (by rw [hw]; exact (by repeat (first | exact Blk.new' (by simp; done) | exact Blk.new' rfl | with_reducible assumption | with_reducible refine Blk.alloc ?_ _ | with_reducible refine Blk.drew ?_ | with_reducible refine Blk.on ?_ _ | ((with_reducible refine Blk.chg ?_ (chg_chg _ _ _) ?_); rotate_left; (first | assumption | (focus (simp; done)) | (focus (simp; omega)))))))
  clear hw hb2 hz HT1 hF
  have n8 : ¬ (w.heap.size + 1 + 1 = w.heap.size + 1 + 1 + 1 + e1.heap.size) := by omega
  generalize w.heap.size + 1 + 1 + 1 + e1.heap.size = p at *
  have b80 := B8.out.cell 0 rfl
  have b81 := B8.out.cell 1 rfl
  have b82 := B8.out.cell 2 rfl
  have b83 := B8.out.cell 3 rfl
  have f80 := B8.out.free 0
  have f81 := B8.out.free 1
  have f82 := B8.out.free 2
  have f83 := B8.out.free 3
  have hl8 := B8.out.lt
  have r2 := H2.out.cell 2 rfl
  have r3 := H2.out.cell 3 rfl
  have hp := H2.out.lt
  by_cases he : e = 0
  · subst he
    obtain rfl := HZ.out rfl
    have H2' : Hid (RdAt w2 p a cap l (at_ + 64) 0) := H2
    have HE : Hid (∀ W, RdAt W p a cap l (at_ + 64) 0 → Calls Tryd.prog 56 #[.pointer (some ⟨p, 0, none⟩), .int .u64 (v : Nat), .agg #[.bool true, .int .u64 (v : Nat), .int .u8 0, .int .u8 0]] W (Ret W (.tuple #[.int .u64 (v : Nat), .int .i64 (at_ + 64), .agg #[.bool true, .int .u64 (v : Nat), .int .u8 0, .int .u8 0], .int .u16 0]))) := hid (fun W h => end_ok W p a cap l (at_ + 64) h v ⟨true, v, 0, 0⟩)
    go_wp2_with (go_at_call 56; (with_reducible refine (HE.out _ (by repeat (first | with_reducible exact H2'.out | with_reducible refine Blk.alloc ?_ _ | with_reducible refine Blk.drew ?_ | with_reducible refine Blk.on ?_ _ | ((with_reducible refine Blk.chg ?_ (chg_chg _ _ _) ?_); rotate_left; (first | assumption | (focus (simp; done)) | (focus (simp; omega)))) | ((with_reducible refine Blk.set_ne ?_ ?_ _); rotate_left; (first | assumption | (focus (simp; done)) | (focus (simp; omega))))))).mono ?_); rintro _ _ ⟨⟨e3, rfl⟩, rfl⟩)
    (try simp only [Exit.inBlock, Exit.then])
    refine bodyPost_ret (v := ?rv22) ?rh22 rfl ?rp22
    case rh22 => (simp only [results, show Tryd.f31.results = #[.tmp 6, .tmp 7, .cell 8 24, .tmp 9] from rfl]; go_simp; rfl)
    exact ⟨(by (try unfold Ov); repeat (first | with_reducible exact O2.out | with_reducible exact O2.out | with_reducible refine ex_undrew ?_ | with_reducible refine ex_into ?_ _ | with_reducible refine ex_alloc ?_ _ | with_reducible refine ex_drew ?_ | ((with_reducible refine ex_setCell ?_ ?_ _); rotate_left; (first | omega | (focus (simp; done)) | (focus (simp; omega)))) | ((with_reducible refine ex_chg ?_ _ ?_); rotate_left; (first | assumption | (exact Hid.out (by assumption)))) | exact ex_over)), by rw [HRES.out]; rfl⟩
  · have HE : Hid (∀ W, RdAt W p a cap l at2 e → Calls Tryd.prog 56 #[.pointer (some ⟨p, 0, none⟩), .int .u64 (v : Nat), .agg #[.bool true, .int .u64 (v : Nat), .int .u8 0, .int .u8 0]] W (Ret W (.tuple #[.int .u64 0, .int .i64 0, .agg #[.bool false, .int .u64 0, .int .u8 0, .int .u8 0], .int .u16 (e : Nat)]))) := hid (fun W h => end_err W p a cap l at2 e he h v ⟨true, v, 0, 0⟩)
    have he' : ((e : Int) == 0) = false := by simp; exact he
    go_wp2_with (go_at_call 56; (with_reducible refine (HE.out _ (by repeat (first | with_reducible exact H2.out | with_reducible refine Blk.alloc ?_ _ | with_reducible refine Blk.drew ?_ | with_reducible refine Blk.on ?_ _ | ((with_reducible refine Blk.chg ?_ (chg_chg _ _ _) ?_); rotate_left; (first | assumption | (focus (simp; done)) | (focus (simp; omega)))) | ((with_reducible refine Blk.set_ne ?_ ?_ _); rotate_left; (first | assumption | (focus (simp; done)) | (focus (simp; omega))))))).mono ?_); rintro _ _ ⟨⟨e3, rfl⟩, rfl⟩)
    (try simp only [Exit.inBlock, Exit.then])
    refine bodyPost_ret (v := ?rv23) ?rh23 rfl ?rp23
    case rh23 => (simp only [results, show Tryd.f31.results = #[.tmp 6, .tmp 7, .cell 8 24, .tmp 9] from rfl]; go_simp; rfl)
    exact ⟨(by (try unfold Ov); repeat (first | with_reducible exact O2.out | with_reducible exact O2.out | with_reducible refine ex_undrew ?_ | with_reducible refine ex_into ?_ _ | with_reducible refine ex_alloc ?_ _ | with_reducible refine ex_drew ?_ | ((with_reducible refine ex_setCell ?_ ?_ _); rotate_left; (first | omega | (focus (simp; done)) | (focus (simp; omega)))) | ((with_reducible refine ex_chg ?_ _ ?_); rotate_left; (first | assumption | (exact Hid.out (by assumption)))) | exact ex_over)), by rw [HRES.out, if_neg he]; rfl⟩
end Go.Proofs.YthljlajdkdgieaaDoor
