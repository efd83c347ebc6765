/- Walks: the document's Get of samples. -/
import Derived.Test.YthljlajdkdgieaaDoorChkG
import Derived.Test.YthljlajdkdgieaaDoorGK
import Derived.Test.YthljlajdkdgieaaDoorGN
import Derived.Test.YthljlajdkdgieaaDoorGL
namespace Go.Proofs.YthljlajdkdgieaaDoor
set_option linter.unusedVariables false
set_option linter.unusedSimpArgs false
open Go.RowKit
attribute [local go_sem] over_drew chg_drew

/-- What the document's Get tells. -/
abbrev rcgV (p : (Int × Nat) × Int × En × Nat) : Value := .tuple #[smV p.1.1 p.1.2, .int .i64 p.2.1, p.2.2.1.v, .int .i64 (p.2.2.2 : Nat)]

set_option maxRecDepth 100000 in
set_option maxHeartbeats 2000000 in
theorem rcget_no (bs : List Nat) (hbs : ∀ b ∈ bs, b < 256) (hl : bs.length ≤ 1000000) (N : Int) (hN : -9223372036854775808 ≤ N ∧ N ≤ 9223372036854775807) (a : Option Addr) (cap : Nat) (at_ : Int) (e : En) (he : e.wf) (w : World) (hb : SlB w a cap bs)
    (hn : ¬ wrongC (soundB bs N) (soundE e) = 0) : Calls Tryd.prog 35 #[bv a bs.length cap N, .int .i64 at_, e.v] w (Ret w (rcgV ((0, 0), 0, En.zero, wrongC (soundB bs N) (soundE e)))) := by
  have H1 := hid (fun W hW => rsound_any bs hbs hl N hN a cap W hW)
  have H2 := hid (fun W => rcsound_any e he W)
  cases g1 : soundB bs N
  · rw [g1] at H1
    rw [show wrongC false (soundE e) = 11 from rfl]
    clear hn
    go_enter Tryd.func35, Tryd.ntmps35
    go_wp2_with (go_at_call 46; (with_reducible refine (H1.out _ (by repeat (first | with_reducible exact hb | with_reducible refine Sl.over ?_ _ | with_reducible refine Sl.alloc ?_ _ | with_reducible refine Sl.drew ?_ | exact hb))).mono ?_); rintro _ _ ⟨⟨e1, rfl⟩, rfl⟩)
    (try simp only [Exit.inBlock, Exit.then])
    refine bodyPost_ret (v := ?rv111) ?rh111 rfl ?rp111
    case rh111 => (simp only [results, show Tryd.f35.results = #[.cell 6 47, .tmp 7, .cell 8 42, .tmp 9] from rfl]; go_simp; rfl)
    exact ⟨(by (try unfold Ov); repeat (first | with_reducible exact ex_over | with_reducible exact over_self _ | with_reducible refine ex_undrew ?_ | with_reducible refine ex_into ?_ _ | with_reducible refine ex_alloc ?_ _ | with_reducible refine ex_drew ?_ | ((with_reducible refine ex_setCell ?_ ?_ _); rotate_left; (first | omega | (focus (simp; done)) | (focus (simp; omega)))) | ((with_reducible refine ex_chg ?_ _ ?_); rotate_left; (first | assumption | (exact Hid.out (by assumption)))) | exact ex_over)), rfl⟩
  · rw [g1] at H1 hn
    cases g2 : soundE e
    · rw [g2] at H2
      rw [show wrongC true false = 61 from rfl]
      clear hn
      go_enter Tryd.func35, Tryd.ntmps35
      go_wp2_with (first | (go_at_call 46; (with_reducible refine (H1.out _ (by repeat (first | with_reducible exact hb | with_reducible refine Sl.over ?_ _ | with_reducible refine Sl.alloc ?_ _ | with_reducible refine Sl.drew ?_ | exact hb))).mono ?_); rintro _ _ ⟨⟨e1, rfl⟩, rfl⟩) | (go_at_call 52; (with_reducible refine (H2.out _).mono ?_); rintro _ _ ⟨⟨e2, rfl⟩, rfl⟩))
      (try simp only [Exit.inBlock, Exit.then])
      refine bodyPost_ret (v := ?rv112) ?rh112 rfl ?rp112
      case rh112 => (simp only [results, show Tryd.f35.results = #[.cell 6 47, .tmp 7, .cell 8 42, .tmp 9] from rfl]; go_simp; rfl)
      exact ⟨(by (try unfold Ov); repeat (first | with_reducible exact ex_over | with_reducible exact over_self _ | with_reducible refine ex_undrew ?_ | with_reducible refine ex_into ?_ _ | with_reducible refine ex_alloc ?_ _ | with_reducible refine ex_drew ?_ | ((with_reducible refine ex_setCell ?_ ?_ _); rotate_left; (first | omega | (focus (simp; done)) | (focus (simp; omega)))) | ((with_reducible refine ex_chg ?_ _ ?_); rotate_left; (first | assumption | (exact Hid.out (by assumption)))) | exact ex_over)), rfl⟩
    · rw [g2] at hn
      exact absurd rfl hn

set_option maxRecDepth 100000 in
set_option maxHeartbeats 4000000 in
theorem rcget_dead (l : List Bool) (hl : l.length ≤ 700000) (a : Option Addr) (cap : Nat) (at_ : Int) (hat : i64ok at_) (e : En) (he : e.wf) (hse : soundE e = true) (h : (getT l at_ e).2.2.2 = false) (w : World) (hb : SlB w a cap (pack l)) :
    Calls Tryd.prog 35 #[bv a (pack l).length cap l.length, .int .i64 at_, e.v] w (Ret w (rcgV ((0, 0), 0, En.zero, 61))) := by
  have H1 := hid (fun W hW => rsound_any (pack l) pack_lt (pack_len_le (by omega)) l.length (by omega) a cap W hW)
  rw [sound_pack] at H1
  have HS := hid (fun W => rcsound_any e he W)
  rw [hse] at HS
  unfold i64ok at hat
  clear hse
  obtain ⟨n, last, delta, val⟩ := e
  obtain ⟨⟨q1, q2⟩, ⟨q3, q4⟩, ⟨q5, q6⟩, hval⟩ := he
  simp only at q1 q2 q3 q4 q5 q6 hval
  unfold getT at h
  by_cases h0 : n = 0
  · subst h0
    simp only [if_true, decide_eq_false_iff_not] at h
    have HB := hid (fun W h1 => rget_any l (by omega) at_ hat 64 (by decide) a cap W h1)
    rw [getN_bad h] at HB
    have HB' : Hid (∀ W, SlB W a cap (pack l) → Calls Tryd.prog 65 #[bv a (pack l).length cap l.length, .int .i64 at_, .int .i64 64] W (Ret W (.tuple #[.int .u64 0, .int .i64 10]))) := HB
    clear HB h
    go_enter Tryd.func35, Tryd.ntmps35
    go_wp2_with (first | (go_at_call 46; (with_reducible refine (H1.out _ (by repeat (first | with_reducible exact hb | with_reducible refine Sl.over ?_ _ | with_reducible refine Sl.alloc ?_ _ | with_reducible refine Sl.drew ?_ | exact hb))).mono ?_); rintro _ _ ⟨⟨e1, rfl⟩, rfl⟩) | (go_at_call 52; (with_reducible refine (HS.out _).mono ?_); rintro _ _ ⟨⟨e2, rfl⟩, rfl⟩) | (go_at_call 65; (with_reducible refine (HB'.out _ (by repeat (first | with_reducible exact hb | with_reducible refine Sl.over ?_ _ | with_reducible refine Sl.alloc ?_ _ | with_reducible refine Sl.drew ?_ | exact hb))).mono ?_); rintro _ _ ⟨⟨e3, rfl⟩, rfl⟩))
    (try simp only [Exit.inBlock, Exit.then])
    refine bodyPost_ret (v := ?rv113) ?rh113 rfl ?rp113
    case rh113 => (simp only [results, show Tryd.f35.results = #[.cell 6 47, .tmp 7, .cell 8 42, .tmp 9] from rfl]; go_simp; rfl)
    exact ⟨(by (try unfold Ov); repeat (first | with_reducible exact ex_over | with_reducible exact over_self _ | with_reducible refine ex_undrew ?_ | with_reducible refine ex_into ?_ _ | with_reducible refine ex_alloc ?_ _ | with_reducible refine ex_drew ?_ | ((with_reducible refine ex_setCell ?_ ?_ _); rotate_left; (first | omega | (focus (simp; done)) | (focus (simp; omega)))) | ((with_reducible refine ex_chg ?_ _ ?_); rotate_left; (first | assumption | (exact Hid.out (by assumption)))) | exact ex_over)), rfl⟩
  · simp only [if_neg h0] at h
    have h0' : (n == 0) = false := by simp; exact h0
    have HZ := hid (fun W h1 => rzget_yes l (by omega) a cap at_ hat W h1)
    obtain ⟨⟨d, nx, er⟩, hg⟩ : ∃ p, getZ l at_ = p := ⟨_, rfl⟩
    rw [hg] at h HZ
    simp only at h
    clear hg
    by_cases hr : er = 0
    · subst hr
      simp only [decide_true, Bool.true_and, decide_eq_false_iff_not] at h
      have HZ' : Hid (∀ W, SlB W a cap (pack l) → Calls Tryd.prog 66 #[bv a (pack l).length cap l.length, .int .i64 at_] W (Ret W (.tuple #[.int .i64 d, .int .i64 nx, .int .i64 0]))) := HZ
      have hw1 : wrap64 (IntKind.u64.wrap (IntKind.u64.wrap d + IntKind.u64.wrap delta)) = wz (d + delta) := by simp only [IntKind.wrap_u64]; unfold wrap64 wz; omega
      have hw2 : wrap64 (IntKind.u64.wrap (IntKind.u64.wrap last + IntKind.u64.wrap (wz (d + delta)))) = wz (last + wz (d + delta)) := by simp only [IntKind.wrap_u64]; generalize wz (d + delta) = D; unfold wrap64 wz; omega
      clear HZ
      generalize wz (d + delta) = D at *
      generalize wz (last + D) = T at *
      go_enter Tryd.func35, Tryd.ntmps35
      go_wp2_with (first | (go_at_call 46; (with_reducible refine (H1.out _ (by repeat (first | with_reducible exact hb | with_reducible refine Sl.over ?_ _ | with_reducible refine Sl.alloc ?_ _ | with_reducible refine Sl.drew ?_ | exact hb))).mono ?_); rintro _ _ ⟨⟨e1, rfl⟩, rfl⟩) | (go_at_call 52; (with_reducible refine (HS.out _).mono ?_); rintro _ _ ⟨⟨e2, rfl⟩, rfl⟩) | (go_at_call 66; (with_reducible refine (HZ'.out _ (by repeat (first | with_reducible exact hb | with_reducible refine Sl.over ?_ _ | with_reducible refine Sl.alloc ?_ _ | with_reducible refine Sl.drew ?_ | exact hb))).mono ?_); rintro _ _ ⟨⟨e3, rfl⟩, rfl⟩))
      (try simp only [Exit.inBlock, Exit.then])
      refine bodyPost_ret (v := ?rv114) ?rh114 rfl ?rp114
      case rh114 => (simp only [results, show Tryd.f35.results = #[.cell 6 47, .tmp 7, .cell 8 42, .tmp 9] from rfl]; go_simp; rfl)
      exact ⟨(by (try unfold Ov); repeat (first | with_reducible exact ex_over | with_reducible exact over_self _ | with_reducible refine ex_undrew ?_ | with_reducible refine ex_into ?_ _ | with_reducible refine ex_alloc ?_ _ | with_reducible refine ex_drew ?_ | ((with_reducible refine ex_setCell ?_ ?_ _); rotate_left; (first | omega | (focus (simp; done)) | (focus (simp; omega)))) | ((with_reducible refine ex_chg ?_ _ ?_); rotate_left; (first | assumption | (exact Hid.out (by assumption)))) | exact ex_over)), rfl⟩
    · have hr' : ((er : Int) != 0) = true := by simp; exact hr
      clear h hr
      go_enter Tryd.func35, Tryd.ntmps35
      go_wp2_with (first | (go_at_call 46; (with_reducible refine (H1.out _ (by repeat (first | with_reducible exact hb | with_reducible refine Sl.over ?_ _ | with_reducible refine Sl.alloc ?_ _ | with_reducible refine Sl.drew ?_ | exact hb))).mono ?_); rintro _ _ ⟨⟨e1, rfl⟩, rfl⟩) | (go_at_call 52; (with_reducible refine (HS.out _).mono ?_); rintro _ _ ⟨⟨e2, rfl⟩, rfl⟩) | (go_at_call 66; (with_reducible refine (HZ.out _ (by repeat (first | with_reducible exact hb | with_reducible refine Sl.over ?_ _ | with_reducible refine Sl.alloc ?_ _ | with_reducible refine Sl.drew ?_ | exact hb))).mono ?_); rintro _ _ ⟨⟨e3, rfl⟩, rfl⟩))
      (try simp only [Exit.inBlock, Exit.then])
      refine bodyPost_ret (v := ?rv115) ?rh115 rfl ?rp115
      case rh115 => (simp only [results, show Tryd.f35.results = #[.cell 6 47, .tmp 7, .cell 8 42, .tmp 9] from rfl]; go_simp; rfl)
      exact ⟨(by (try unfold Ov); repeat (first | with_reducible exact ex_over | with_reducible exact over_self _ | with_reducible refine ex_undrew ?_ | with_reducible refine ex_into ?_ _ | with_reducible refine ex_alloc ?_ _ | with_reducible refine ex_drew ?_ | ((with_reducible refine ex_setCell ?_ ?_ _); rotate_left; (first | omega | (focus (simp; done)) | (focus (simp; omega)))) | ((with_reducible refine ex_chg ?_ _ ?_); rotate_left; (first | assumption | (exact Hid.out (by assumption)))) | exact ex_over)), rfl⟩

set_option maxRecDepth 100000 in
set_option maxHeartbeats 8000000 in
theorem rcget_new1 (l : List Bool) (hl : l.length ≤ 700000) (a : Option Addr) (cap : Nat) (at_ : Int) (hat : i64ok at_) (e : En) (he : e.wf) (hse : soundE e = true) (ht : (getT l at_ e).2.2.2 = true) (h0 : e.n = 0) (hr : (getX l (getT l at_ e).2.2.1 e.val).2.2.2 = 0) (w : World) (hb : SlB w a cap (pack l)) :
    Calls Tryd.prog 35 #[bv a (pack l).length cap l.length, .int .i64 at_, e.v] w (Ret w (rcgV (getC l at_ e))) := by
  have H1 := hid (fun W hW => rsound_any (pack l) pack_lt (pack_len_le (by omega)) l.length (by omega) a cap W hW)
  rw [sound_pack] at H1
  have HS := hid (fun W => rcsound_any e he W)
  rw [hse] at HS
  have hok := getT_ok ht he
  have hn64 : -9223372036854775808 ≤ (getT l at_ e).2.2.1 ∧ (getT l at_ e).2.2.1 ≤ 9223372036854775807 := by have := hok.1; have := hok.2.1; have := hok.2.2.1; omega
  have hnn : 0 ≤ (getT l at_ e).2.2.1 ∧ (getT l at_ e).2.2.1 ≤ 700000 := by have := hok.1; have := hok.2.1; have := hok.2.2.1; omega
  clear hok
  have hsv := soundE_val hse
  have hx : getC l at_ e = if (getX l (getT l at_ e).2.2.1 e.val).2.2.2 ≠ 0 then ((0, 0), 0, En.zero, 61) else (((getT l at_ e).1, (getX l (getT l at_ e).2.2.1 e.val).1), (getX l (getT l at_ e).2.2.1 e.val).2.1, ⟨wz (e.n + 1), (getT l at_ e).1, (getT l at_ e).2.1, (getX l (getT l at_ e).2.2.1 e.val).2.2.1⟩, 0) := by
    conv => lhs; unfold getC
    rw [if_neg (by rw [ht]; decide)]
  rw [hx]
  clear hx hse
  unfold i64ok at hat
  obtain ⟨n0, last, delta, val⟩ := e
  obtain ⟨⟨q1, q2⟩, ⟨q3, q4⟩, ⟨q5, q6⟩, hval⟩ := he
  simp only at q1 q2 q3 q4 q5 q6 hval hsv h0
  unfold getT at *
  have h0' : (n0 == 0) = true := by simp; exact h0
  simp only [if_pos h0, decide_eq_true_eq] at ht hn64 hnn hr ⊢
  have HB := hid (fun W h1 => rget_any l (by omega) at_ hat 64 (by decide) a cap W h1)
  obtain ⟨⟨V, er0⟩, hg⟩ : ∃ p, getN l at_ 64 = p := ⟨_, rfl⟩
  rw [hg] at HB ht ⊢
  simp only at ht ⊢
  subst ht
  have HZ' : Hid (∀ W, SlB W a cap (pack l) → Calls Tryd.prog 65 #[bv a (pack l).length cap l.length, .int .i64 at_, .int .i64 64] W (Ret W (.tuple #[.int .u64 (V : Nat), .int .i64 0]))) := HB
  have hw1 : wrap64 (V : Int) = wz (V : Int) := wrap64_wz _
  clear HB hg
  generalize wz (V : Int) = T at *
  have HX := hid (fun W h1 => rxget_yes l (by omega) a cap (at_ + 64) hn64 val hval hsv W h1)
  have hxv := getX_lt (l := l) (at_ := (at_ + 64)) hval
  obtain ⟨⟨v, m, s, er⟩, hgx⟩ : ∃ p, getX l ((at_ + 64)) val = p := ⟨_, rfl⟩
  rw [hgx] at HX hxv hr ⊢
  simp only at HX hxv hr ⊢
  clear hgx hsv
  obtain ⟨hval1, hval2, hval3⟩ := hval
  subst hr
  rw [if_neg (by decide)]
  have HX' : Hid (∀ W, SlB W a cap (pack l) → Calls Tryd.prog 32 #[bv a (pack l).length cap l.length, .int .i64 (at_ + 64), val.v] W (Ret W (.tuple #[.int .u64 (v : Nat), .int .i64 m, s.v, .int .i64 0]))) := HX
  clear HX
  have hwn : wrap64 (n0 + 1) = wz (n0 + 1) := wrap64_wz _
  generalize wz (n0 + 1) = n1 at *
  clear h0
  go_enter Tryd.func35, Tryd.ntmps35
  go_wp2_with (first | (go_at_call 46; (with_reducible refine (H1.out _ (by repeat (first | with_reducible exact hb | with_reducible refine Sl.over ?_ _ | with_reducible refine Sl.alloc ?_ _ | with_reducible refine Sl.drew ?_ | exact hb))).mono ?_); rintro _ _ ⟨⟨e1, rfl⟩, rfl⟩) | (go_at_call 52; (with_reducible refine (HS.out _).mono ?_); rintro _ _ ⟨⟨e2, rfl⟩, rfl⟩) | (go_at_call 65; (with_reducible refine (HZ'.out _ (by repeat (first | with_reducible exact hb | with_reducible refine Sl.over ?_ _ | with_reducible refine Sl.alloc ?_ _ | with_reducible refine Sl.drew ?_ | exact hb))).mono ?_); rintro _ _ ⟨⟨e3, rfl⟩, rfl⟩) | (go_at_call 32; (with_reducible refine (HX'.out _ (by repeat (first | with_reducible exact hb | with_reducible refine Sl.over ?_ _ | with_reducible refine Sl.alloc ?_ _ | with_reducible refine Sl.drew ?_ | exact hb))).mono ?_); rintro _ _ ⟨⟨e4, rfl⟩, rfl⟩))
  refine gen_w ?_
  intro W7 hW7
  have O7 : Hid (∃ e, W7 = over w e) := hid (by rw [hW7]; exact (by (try unfold Ov); repeat (first | with_reducible exact ex_over | with_reducible exact over_self _ | with_reducible refine ex_undrew ?_ | with_reducible refine ex_into ?_ _ | with_reducible refine ex_alloc ?_ _ | with_reducible refine ex_drew ?_ | ((with_reducible refine ex_setCell ?_ ?_ _); rotate_left; (first | omega | (focus (simp; done)) | (focus (simp; omega)))) | ((with_reducible refine ex_chg ?_ _ ?_); rotate_left; (first | assumption | (exact Hid.out (by assumption)))) | exact ex_over)))
  have A5 : Hid (Blk W7 (w.heap.size + 1) [.int .i64 n0, .int .i64 last, .int .i64 delta, .bool val.has, .int .u64 (val.prev : Nat), .int .u8 (val.lead : Nat), .int .u8 (val.width : Nat)] 42) := hid (by rw [hW7]; exact Blk.alloc (Blk.on (Blk.on (Blk.on (Blk.on (Blk.alloc (Blk.alloc (Blk.new' (by simp)) _) _) _) _) _) _) _)
  have A6 : Hid (Blk W7 (w.heap.size + 1 + 1) [.int .i64 0, .int .u64 0] 47) := hid (by rw [hW7]; exact Blk.alloc (Blk.on (Blk.on (Blk.on (Blk.on (Blk.alloc (Blk.new' (by simp)) _) _) _) _) _) _)
  have A8 : Hid (Blk W7 (w.heap.size + 1 + 1 + 1) [.int .i64 0, .int .i64 0, .int .i64 0, .bool false, .int .u64 0, .int .u8 0, .int .u8 0] 42) := hid (by rw [hW7]; exact Blk.alloc (Blk.on (Blk.on (Blk.on (Blk.on (Blk.new' (by simp)) _) _) _) _) _)
  have A16 : Hid (Blk W7 (w.heap.size + 1 + 1 + 1 + 1 + e1.heap.size + e2.heap.size + e3.heap.size + e4.heap.size) [.bool s.has, .int .u64 (s.prev : Nat), .int .u8 (s.lead : Nat), .int .u8 (s.width : Nat)] 24) := hid (by rw [hW7]; exact Blk.new' (by simp))
  clear hW7
  obtain ⟨p5, hp5⟩ : ∃ p5, w.heap.size + 1 = p5 := ⟨_, rfl⟩
  obtain ⟨p16, hp16⟩ : ∃ p16, w.heap.size + 1 + 1 + 1 + 1 + e1.heap.size + e2.heap.size + e3.heap.size + e4.heap.size = p16 := ⟨_, rfl⟩
  rw [hp16] at A16 ⊢
  rw [hp5] at A5 A6 A8 hp16 ⊢
  obtain ⟨p6, hp6⟩ : ∃ p6, p5 + 1 = p6 := ⟨_, rfl⟩
  rw [hp6] at A6 A8 hp16 ⊢
  obtain ⟨p8, hp8⟩ : ∃ p8, p6 + 1 = p8 := ⟨_, rfl⟩
  rw [hp8] at A8 hp16 ⊢
  obtain ⟨F, hF⟩ : ∃ F, F = [p6, p8] := ⟨_, rfl⟩
  have HF : Hid (∀ i ∈ F, w.heap.size ≤ i) := hid (by rw [hF]; simp; omega)
  have n1 : p6 ∈ F := by rw [hF]; simp
  have n2 : p8 ∈ F := by rw [hF]; simp
  have n3 : p5 ∉ F := by rw [hF]; simp; omega
  have n5 : p16 ∉ F := by rw [hF]; simp; omega
  have i1 : w.heap.size ≤ p6 := by omega
  have i2 : w.heap.size ≤ p8 := by omega
  have n68 : ¬ p6 = p8 := by omega
  have n86 : ¬ p8 = p6 := by omega
  clear hF hp5 hp6 hp8 hp16
  have l5 := A5.out.lt
  have l6 := A6.out.lt
  have l8 := A8.out.lt
  have l16 := A16.out.lt
  have r50 := A5.out.cell 0 rfl
  have r60 := A6.out.cell 0 rfl
  have r61 := A6.out.cell 1 rfl
  have g60 := A6.out.free 0
  have g61 := A6.out.free 1
  have r80 := A8.out.cell 0 rfl
  have r81 := A8.out.cell 1 rfl
  have r82 := A8.out.cell 2 rfl
  have r83 := A8.out.cell 3 rfl
  have r84 := A8.out.cell 4 rfl
  have r85 := A8.out.cell 5 rfl
  have r86 := A8.out.cell 6 rfl
  have g80 := A8.out.free 0
  have g81 := A8.out.free 1
  have g82 := A8.out.free 2
  have g83 := A8.out.free 3
  have g84 := A8.out.free 4
  have g85 := A8.out.free 5
  have g86 := A8.out.free 6
  have r160 := A16.out.cell 0 rfl
  have r161 := A16.out.cell 1 rfl
  have r162 := A16.out.cell 2 rfl
  have r163 := A16.out.cell 3 rfl
  refine M2.wp_region_mixZ (fun w' => ∃ m : Mut, w' = chg F _ m) [11, 13] 15 (by kernel_rfl) (by kernel_rfl) (by decide) (chg_of (Chg.refl _ _)) ?_
  simp only [List.take_succ_cons, List.take_zero, List.drop_succ_cons, List.drop_zero]
  with_reducible refine M2.mixL_quiet 11 (by kernel_rfl) ?_
  simp only [List.take_succ_cons, List.take_zero, List.drop_succ_cons, List.drop_zero]
  repeat (go_big_quiet_step (fail))
  with_reducible refine wpQuiet_nil ?_
  with_reducible refine M2.mixL_eff (by decide) ?_
  go_wp2_with (fail)
  refine M2.MixQ.mk (chg_of (by repeat (first | with_reducible exact Chg.refl _ _ | (focus (refine ChS.chg ?_; (repeat (first | with_reducible exact ChS.refl _ _ | with_reducible refine ChS.drewl ?_ | with_reducible refine ChS.drewr ?_ | with_reducible refine ChS.over ?_ _ | with_reducible refine chS_chgs ?_ _ | ((with_reducible refine chS_set ?_ _ ?_ _); rotate_left; (first | assumption | (focus (simp; done)) | (focus (simp; assumption)))) | with_reducible refine ChS.alloc ?_ _ | ((with_reducible refine ChS.lit ?_ ?_ _ _); rotate_left; (first | assumption | (focus (simp; done)) | (focus (simp; assumption)))) | with_reducible refine ChS.alloc ?_ _)); done)) | with_reducible refine Chg.alloc ?_ _ | with_reducible refine Chg.drew ?_ | with_reducible refine Chg.on ?_ _ | ((with_reducible refine Chg.setCell ?_ ?_ _); rotate_left; (first | (focus (left; assumption)) | (focus (left; simp; done)) | (focus (right; simp; done)) | (focus (right; simp; omega)) | (focus (left; simp; omega)))) | ((with_reducible refine Chg.in_ ?_ _ ?_); rotate_left; (first | assumption | (focus (intro i hi; left; simp at hi; subst hi; assumption)) | exact fun i hi => Or.inl hi | (focus (intro i hi; left; simp [hi]; done)) | (focus (intro i hi; left; simp at hi ⊢; simp [hi]; done)) | (focus (intro i hi; simp at hi ⊢; simp [hi]; done)) | (focus (intro i hi; simp at hi ⊢; omega))))))) ?_
  with_reducible refine M2.mixL_quiet 1 (by kernel_rfl) ?_
  simp only [List.take_succ_cons, List.take_zero, List.drop_succ_cons, List.drop_zero]
  repeat (go_big_quiet_step (fail))
  with_reducible refine wpQuiet_nil ?_
  with_reducible refine M2.mixL_eff (by decide) ?_
  go_wp2_with (fail)
  refine M2.MixQ.mk (chg_of (by repeat (first | with_reducible exact Chg.refl _ _ | (focus (refine ChS.chg ?_; (repeat (first | with_reducible exact ChS.refl _ _ | with_reducible refine ChS.drewl ?_ | with_reducible refine ChS.drewr ?_ | with_reducible refine ChS.over ?_ _ | with_reducible refine chS_chgs ?_ _ | ((with_reducible refine chS_set ?_ _ ?_ _); rotate_left; (first | assumption | (focus (simp; done)) | (focus (simp; assumption)))) | with_reducible refine ChS.alloc ?_ _ | ((with_reducible refine ChS.lit ?_ ?_ _ _); rotate_left; (first | assumption | (focus (simp; done)) | (focus (simp; assumption)))) | with_reducible refine ChS.alloc ?_ _)); done)) | with_reducible refine Chg.alloc ?_ _ | with_reducible refine Chg.drew ?_ | with_reducible refine Chg.on ?_ _ | ((with_reducible refine Chg.setCell ?_ ?_ _); rotate_left; (first | (focus (left; assumption)) | (focus (left; simp; done)) | (focus (right; simp; done)) | (focus (right; simp; omega)) | (focus (left; simp; omega)))) | ((with_reducible refine Chg.in_ ?_ _ ?_); rotate_left; (first | assumption | (focus (intro i hi; left; simp at hi; subst hi; assumption)) | exact fun i hi => Or.inl hi | (focus (intro i hi; left; simp [hi]; done)) | (focus (intro i hi; left; simp at hi ⊢; simp [hi]; done)) | (focus (intro i hi; simp at hi ⊢; simp [hi]; done)) | (focus (intro i hi; simp at hi ⊢; omega))))))) ?_
  with_reducible refine M2.mixL_quiet 1 (by kernel_rfl) ?_
  simp only [List.take_succ_cons, List.take_zero, List.drop_succ_cons, List.drop_zero]
  repeat (go_big_quiet_step (fail))
  with_reducible refine wpQuiet_nil ?_
  with_reducible refine M2.mixL_nil ?_
  with_reducible refine M2.mixL_nil ?_
  go_wp2_with fail
  (try simp only [Exit.inBlock, Exit.then])
  refine bodyPost_ret (v := ?rv116) ?rh116 rfl ?rp116
  case rh116 => (simp only [results, show Tryd.f35.results = #[.cell 6 47, .tmp 7, .cell 8 42, .tmp 9] from rfl]; go_simp; rfl)
  exact ⟨(by (try unfold Ov); repeat (first | with_reducible exact O7.out | with_reducible exact O7.out | with_reducible refine ex_undrew ?_ | with_reducible refine ex_into ?_ _ | with_reducible refine ex_alloc ?_ _ | with_reducible refine ex_drew ?_ | ((with_reducible refine ex_setCell ?_ ?_ _); rotate_left; (first | omega | (focus (simp; done)) | (focus (simp; omega)))) | ((with_reducible refine ex_chg ?_ _ ?_); rotate_left; (first | assumption | (exact Hid.out (by assumption)))) | exact ex_over)), rfl⟩

set_option maxRecDepth 100000 in
set_option maxHeartbeats 8000000 in
theorem rcget_new2 (l : List Bool) (hl : l.length ≤ 700000) (a : Option Addr) (cap : Nat) (at_ : Int) (hat : i64ok at_) (e : En) (he : e.wf) (hse : soundE e = true) (ht : (getT l at_ e).2.2.2 = true) (h0 : e.n = 0) (hr : ¬ (getX l (getT l at_ e).2.2.1 e.val).2.2.2 = 0) (w : World) (hb : SlB w a cap (pack l)) :
    Calls Tryd.prog 35 #[bv a (pack l).length cap l.length, .int .i64 at_, e.v] w (Ret w (rcgV (getC l at_ e))) := by
  have H1 := hid (fun W hW => rsound_any (pack l) pack_lt (pack_len_le (by omega)) l.length (by omega) a cap W hW)
  rw [sound_pack] at H1
  have HS := hid (fun W => rcsound_any e he W)
  rw [hse] at HS
  have hok := getT_ok ht he
  have hn64 : -9223372036854775808 ≤ (getT l at_ e).2.2.1 ∧ (getT l at_ e).2.2.1 ≤ 9223372036854775807 := by have := hok.1; have := hok.2.1; have := hok.2.2.1; omega
  have hnn : 0 ≤ (getT l at_ e).2.2.1 ∧ (getT l at_ e).2.2.1 ≤ 700000 := by have := hok.1; have := hok.2.1; have := hok.2.2.1; omega
  clear hok
  have hsv := soundE_val hse
  have hx : getC l at_ e = if (getX l (getT l at_ e).2.2.1 e.val).2.2.2 ≠ 0 then ((0, 0), 0, En.zero, 61) else (((getT l at_ e).1, (getX l (getT l at_ e).2.2.1 e.val).1), (getX l (getT l at_ e).2.2.1 e.val).2.1, ⟨wz (e.n + 1), (getT l at_ e).1, (getT l at_ e).2.1, (getX l (getT l at_ e).2.2.1 e.val).2.2.1⟩, 0) := by
    conv => lhs; unfold getC
    rw [if_neg (by rw [ht]; decide)]
  rw [hx]
  clear hx hse
  unfold i64ok at hat
  obtain ⟨n0, last, delta, val⟩ := e
  obtain ⟨⟨q1, q2⟩, ⟨q3, q4⟩, ⟨q5, q6⟩, hval⟩ := he
  simp only at q1 q2 q3 q4 q5 q6 hval hsv h0
  unfold getT at *
  subst h0
  simp only [if_true, decide_eq_true_eq] at ht hn64 hnn hr ⊢
  have HB := hid (fun W h1 => rget_any l (by omega) at_ hat 64 (by decide) a cap W h1)
  obtain ⟨⟨V, er0⟩, hg⟩ : ∃ p, getN l at_ 64 = p := ⟨_, rfl⟩
  rw [hg] at HB ht ⊢
  simp only at ht ⊢
  subst ht
  have HZ' : Hid (∀ W, SlB W a cap (pack l) → Calls Tryd.prog 65 #[bv a (pack l).length cap l.length, .int .i64 at_, .int .i64 64] W (Ret W (.tuple #[.int .u64 (V : Nat), .int .i64 0]))) := HB
  have hw1 : wrap64 (V : Int) = wz (V : Int) := wrap64_wz _
  clear HB hg
  generalize wz (V : Int) = T at *
  have HX := hid (fun W h1 => rxget_yes l (by omega) a cap (at_ + 64) hn64 val hval hsv W h1)
  have hxv := getX_lt (l := l) (at_ := (at_ + 64)) hval
  obtain ⟨⟨v, m, s, er⟩, hgx⟩ : ∃ p, getX l ((at_ + 64)) val = p := ⟨_, rfl⟩
  rw [hgx] at HX hxv hr ⊢
  simp only at HX hxv hr ⊢
  clear hgx hsv
  obtain ⟨hval1, hval2, hval3⟩ := hval
  have n0 : (0 : Int) = 0 := rfl
  rw [if_pos hr]
  have hr' : ((er : Int) != 0) = true := by simp; exact hr
  clear hr
  go_enter Tryd.func35, Tryd.ntmps35
  go_wp2_with (first | (go_at_call 46; (with_reducible refine (H1.out _ (by repeat (first | with_reducible exact hb | with_reducible refine Sl.over ?_ _ | with_reducible refine Sl.alloc ?_ _ | with_reducible refine Sl.drew ?_ | exact hb))).mono ?_); rintro _ _ ⟨⟨e1, rfl⟩, rfl⟩) | (go_at_call 52; (with_reducible refine (HS.out _).mono ?_); rintro _ _ ⟨⟨e2, rfl⟩, rfl⟩) | (go_at_call 65; (with_reducible refine (HZ'.out _ (by repeat (first | with_reducible exact hb | with_reducible refine Sl.over ?_ _ | with_reducible refine Sl.alloc ?_ _ | with_reducible refine Sl.drew ?_ | exact hb))).mono ?_); rintro _ _ ⟨⟨e3, rfl⟩, rfl⟩) | (go_at_call 32; (with_reducible refine (HX.out _ (by repeat (first | with_reducible exact hb | with_reducible refine Sl.over ?_ _ | with_reducible refine Sl.alloc ?_ _ | with_reducible refine Sl.drew ?_ | exact hb))).mono ?_); rintro _ _ ⟨⟨e4, rfl⟩, rfl⟩))
  (try simp only [Exit.inBlock, Exit.then])
  refine bodyPost_ret (v := ?rv117) ?rh117 rfl ?rp117
  case rh117 => (simp only [results, show Tryd.f35.results = #[.cell 6 47, .tmp 7, .cell 8 42, .tmp 9] from rfl]; go_simp; rfl)
  exact ⟨(by (try unfold Ov); repeat (first | with_reducible exact ex_over | with_reducible exact over_self _ | with_reducible refine ex_undrew ?_ | with_reducible refine ex_into ?_ _ | with_reducible refine ex_alloc ?_ _ | with_reducible refine ex_drew ?_ | ((with_reducible refine ex_setCell ?_ ?_ _); rotate_left; (first | omega | (focus (simp; done)) | (focus (simp; omega)))) | ((with_reducible refine ex_chg ?_ _ ?_); rotate_left; (first | assumption | (exact Hid.out (by assumption)))) | exact ex_over)), rfl⟩

set_option maxRecDepth 100000 in
set_option maxHeartbeats 8000000 in
theorem rcget_on1 (l : List Bool) (hl : l.length ≤ 700000) (a : Option Addr) (cap : Nat) (at_ : Int) (hat : i64ok at_) (e : En) (he : e.wf) (hse : soundE e = true) (ht : (getT l at_ e).2.2.2 = true) (h0 : e.n ≠ 0) (hq : (getX l (getT l at_ e).2.2.1 e.val).2.2.2 = 0) (w : World) (hb : SlB w a cap (pack l)) :
    Calls Tryd.prog 35 #[bv a (pack l).length cap l.length, .int .i64 at_, e.v] w (Ret w (rcgV (getC l at_ e))) := by
  have H1 := hid (fun W hW => rsound_any (pack l) pack_lt (pack_len_le (by omega)) l.length (by omega) a cap W hW)
  rw [sound_pack] at H1
  have HS := hid (fun W => rcsound_any e he W)
  rw [hse] at HS
  have hok := getT_ok ht he
  have hn64 : -9223372036854775808 ≤ (getT l at_ e).2.2.1 ∧ (getT l at_ e).2.2.1 ≤ 9223372036854775807 := by have := hok.1; have := hok.2.1; have := hok.2.2.1; omega
  have hnn : 0 ≤ (getT l at_ e).2.2.1 ∧ (getT l at_ e).2.2.1 ≤ 700000 := by have := hok.1; have := hok.2.1; have := hok.2.2.1; omega
  clear hok
  have hsv := soundE_val hse
  have hx : getC l at_ e = if (getX l (getT l at_ e).2.2.1 e.val).2.2.2 ≠ 0 then ((0, 0), 0, En.zero, 61) else (((getT l at_ e).1, (getX l (getT l at_ e).2.2.1 e.val).1), (getX l (getT l at_ e).2.2.1 e.val).2.1, ⟨wz (e.n + 1), (getT l at_ e).1, (getT l at_ e).2.1, (getX l (getT l at_ e).2.2.1 e.val).2.2.1⟩, 0) := by
    conv => lhs; unfold getC
    rw [if_neg (by rw [ht]; decide)]
  rw [hx]
  clear hx hse
  unfold i64ok at hat
  obtain ⟨n0, last, delta, val⟩ := e
  obtain ⟨⟨q1, q2⟩, ⟨q3, q4⟩, ⟨q5, q6⟩, hval⟩ := he
  simp only at q1 q2 q3 q4 q5 q6 hval hsv h0
  unfold getT at *
  simp only [if_neg h0] at ht hn64 hnn hq ⊢
  have h0' : (n0 == 0) = false := by simp; exact h0
  have HZ := hid (fun W h1 => rzget_yes l (by omega) a cap at_ hat W h1)
  obtain ⟨⟨d, nx, er0⟩, hg⟩ : ∃ p, getZ l at_ = p := ⟨_, rfl⟩
  rw [hg] at ht HZ hn64 hnn hq ⊢
  simp only [Bool.and_eq_true, decide_eq_true_eq] at ht hn64 hnn hq ⊢
  obtain ⟨hr, hlt⟩ := ht
  subst hr
  have hw1 : wrap64 (IntKind.u64.wrap (IntKind.u64.wrap d + IntKind.u64.wrap delta)) = wz (d + delta) := by simp only [IntKind.wrap_u64]; unfold wrap64 wz; omega
  have hw2 : wrap64 (IntKind.u64.wrap (IntKind.u64.wrap last + IntKind.u64.wrap (wz (d + delta)))) = wz (last + wz (d + delta)) := by simp only [IntKind.wrap_u64]; generalize wz (d + delta) = D; unfold wrap64 wz; omega
  have HZ' : Hid (∀ W, SlB W a cap (pack l) → Calls Tryd.prog 66 #[bv a (pack l).length cap l.length, .int .i64 at_] W (Ret W (.tuple #[.int .i64 d, .int .i64 nx, .int .i64 0]))) := HZ
  clear HZ hg
  generalize wz (d + delta) = D at *
  generalize wz (last + D) = T at *
  have HX := hid (fun W h1 => rxget_yes l (by omega) a cap nx hn64 val hval hsv W h1)
  have hxv := getX_lt (l := l) (at_ := nx) hval
  obtain ⟨⟨v, m, s, er⟩, hgx⟩ : ∃ p, getX l (nx) val = p := ⟨_, rfl⟩
  rw [hgx] at HX hxv hq ⊢
  simp only at HX hxv hq ⊢
  clear hgx hsv
  obtain ⟨hval1, hval2, hval3⟩ := hval
  have hr := hq
  clear hq
  subst hr
  rw [if_neg (by decide)]
  have hwn : wrap64 (n0 + 1) = wz (n0 + 1) := wrap64_wz _
  have HX' : Hid (∀ W, SlB W a cap (pack l) → Calls Tryd.prog 32 #[bv a (pack l).length cap l.length, .int .i64 (nx), val.v] W (Ret W (.tuple #[.int .u64 (v : Nat), .int .i64 m, s.v, .int .i64 0]))) := HX
  clear HX
  generalize wz (n0 + 1) = n1 at *
  go_enter Tryd.func35, Tryd.ntmps35
  go_wp2_with (first | (go_at_call 46; (with_reducible refine (H1.out _ (by repeat (first | with_reducible exact hb | with_reducible refine Sl.over ?_ _ | with_reducible refine Sl.alloc ?_ _ | with_reducible refine Sl.drew ?_ | exact hb))).mono ?_); rintro _ _ ⟨⟨e1, rfl⟩, rfl⟩) | (go_at_call 52; (with_reducible refine (HS.out _).mono ?_); rintro _ _ ⟨⟨e2, rfl⟩, rfl⟩) | (go_at_call 66; (with_reducible refine (HZ'.out _ (by repeat (first | with_reducible exact hb | with_reducible refine Sl.over ?_ _ | with_reducible refine Sl.alloc ?_ _ | with_reducible refine Sl.drew ?_ | exact hb))).mono ?_); rintro _ _ ⟨⟨e3, rfl⟩, rfl⟩) | (go_at_call 32; (with_reducible refine (HX'.out _ (by repeat (first | with_reducible exact hb | with_reducible refine Sl.over ?_ _ | with_reducible refine Sl.alloc ?_ _ | with_reducible refine Sl.drew ?_ | exact hb))).mono ?_); rintro _ _ ⟨⟨e4, rfl⟩, rfl⟩))
  refine gen_w ?_
  intro W7 hW7
  have O7 : Hid (∃ e, W7 = over w e) := hid (by rw [hW7]; exact (by (try unfold Ov); repeat (first | with_reducible exact ex_over | with_reducible exact over_self _ | with_reducible refine ex_undrew ?_ | with_reducible refine ex_into ?_ _ | with_reducible refine ex_alloc ?_ _ | with_reducible refine ex_drew ?_ | ((with_reducible refine ex_setCell ?_ ?_ _); rotate_left; (first | omega | (focus (simp; done)) | (focus (simp; omega)))) | ((with_reducible refine ex_chg ?_ _ ?_); rotate_left; (first | assumption | (exact Hid.out (by assumption)))) | exact ex_over)))
  have A5 : Hid (Blk W7 (w.heap.size + 1) [.int .i64 n0, .int .i64 last, .int .i64 delta, .bool val.has, .int .u64 (val.prev : Nat), .int .u8 (val.lead : Nat), .int .u8 (val.width : Nat)] 42) := hid (by rw [hW7]; exact Blk.alloc (Blk.on (Blk.on (Blk.on (Blk.on (Blk.alloc (Blk.alloc (Blk.new' (by simp)) _) _) _) _) _) _) _)
  have A6 : Hid (Blk W7 (w.heap.size + 1 + 1) [.int .i64 0, .int .u64 0] 47) := hid (by rw [hW7]; exact Blk.alloc (Blk.on (Blk.on (Blk.on (Blk.on (Blk.alloc (Blk.new' (by simp)) _) _) _) _) _) _)
  have A8 : Hid (Blk W7 (w.heap.size + 1 + 1 + 1) [.int .i64 0, .int .i64 0, .int .i64 0, .bool false, .int .u64 0, .int .u8 0, .int .u8 0] 42) := hid (by rw [hW7]; exact Blk.alloc (Blk.on (Blk.on (Blk.on (Blk.on (Blk.new' (by simp)) _) _) _) _) _)
  have A16 : Hid (Blk W7 (w.heap.size + 1 + 1 + 1 + 1 + e1.heap.size + e2.heap.size + e3.heap.size + e4.heap.size) [.bool s.has, .int .u64 (s.prev : Nat), .int .u8 (s.lead : Nat), .int .u8 (s.width : Nat)] 24) := hid (by rw [hW7]; exact Blk.new' (by simp))
  clear hW7
  obtain ⟨p5, hp5⟩ : ∃ p5, w.heap.size + 1 = p5 := ⟨_, rfl⟩
  obtain ⟨p16, hp16⟩ : ∃ p16, w.heap.size + 1 + 1 + 1 + 1 + e1.heap.size + e2.heap.size + e3.heap.size + e4.heap.size = p16 := ⟨_, rfl⟩
  rw [hp16] at A16 ⊢
  rw [hp5] at A5 A6 A8 hp16 ⊢
  obtain ⟨p6, hp6⟩ : ∃ p6, p5 + 1 = p6 := ⟨_, rfl⟩
  rw [hp6] at A6 A8 hp16 ⊢
  obtain ⟨p8, hp8⟩ : ∃ p8, p6 + 1 = p8 := ⟨_, rfl⟩
  rw [hp8] at A8 hp16 ⊢
  obtain ⟨F, hF⟩ : ∃ F, F = [p6, p8] := ⟨_, rfl⟩
  have HF : Hid (∀ i ∈ F, w.heap.size ≤ i) := hid (by rw [hF]; simp; omega)
  have n1 : p6 ∈ F := by rw [hF]; simp
  have n2 : p8 ∈ F := by rw [hF]; simp
  have n3 : p5 ∉ F := by rw [hF]; simp; omega
  have n5 : p16 ∉ F := by rw [hF]; simp; omega
  have i1 : w.heap.size ≤ p6 := by omega
  have i2 : w.heap.size ≤ p8 := by omega
  have n68 : ¬ p6 = p8 := by omega
  have n86 : ¬ p8 = p6 := by omega
  clear hF hp5 hp6 hp8 hp16
  have l5 := A5.out.lt
  have l6 := A6.out.lt
  have l8 := A8.out.lt
  have l16 := A16.out.lt
  have r50 := A5.out.cell 0 rfl
  have r60 := A6.out.cell 0 rfl
  have r61 := A6.out.cell 1 rfl
  have g60 := A6.out.free 0
  have g61 := A6.out.free 1
  have r80 := A8.out.cell 0 rfl
  have r81 := A8.out.cell 1 rfl
  have r82 := A8.out.cell 2 rfl
  have r83 := A8.out.cell 3 rfl
  have r84 := A8.out.cell 4 rfl
  have r85 := A8.out.cell 5 rfl
  have r86 := A8.out.cell 6 rfl
  have g80 := A8.out.free 0
  have g81 := A8.out.free 1
  have g82 := A8.out.free 2
  have g83 := A8.out.free 3
  have g84 := A8.out.free 4
  have g85 := A8.out.free 5
  have g86 := A8.out.free 6
  have r160 := A16.out.cell 0 rfl
  have r161 := A16.out.cell 1 rfl
  have r162 := A16.out.cell 2 rfl
  have r163 := A16.out.cell 3 rfl
  refine M2.wp_region_mixZ (fun w' => ∃ m : Mut, w' = chg F _ m) [11, 13] 15 (by kernel_rfl) (by kernel_rfl) (by decide) (chg_of (Chg.refl _ _)) ?_
  simp only [List.take_succ_cons, List.take_zero, List.drop_succ_cons, List.drop_zero]
  with_reducible refine M2.mixL_quiet 11 (by kernel_rfl) ?_
  simp only [List.take_succ_cons, List.take_zero, List.drop_succ_cons, List.drop_zero]
  repeat (go_big_quiet_step (fail))
  with_reducible refine wpQuiet_nil ?_
  with_reducible refine M2.mixL_eff (by decide) ?_
  go_wp2_with (fail)
  refine M2.MixQ.mk (chg_of (by repeat (first | with_reducible exact Chg.refl _ _ | (focus (refine ChS.chg ?_; (repeat (first | with_reducible exact ChS.refl _ _ | with_reducible refine ChS.drewl ?_ | with_reducible refine ChS.drewr ?_ | with_reducible refine ChS.over ?_ _ | with_reducible refine chS_chgs ?_ _ | ((with_reducible refine chS_set ?_ _ ?_ _); rotate_left; (first | assumption | (focus (simp; done)) | (focus (simp; assumption)))) | with_reducible refine ChS.alloc ?_ _ | ((with_reducible refine ChS.lit ?_ ?_ _ _); rotate_left; (first | assumption | (focus (simp; done)) | (focus (simp; assumption)))) | with_reducible refine ChS.alloc ?_ _)); done)) | with_reducible refine Chg.alloc ?_ _ | with_reducible refine Chg.drew ?_ | with_reducible refine Chg.on ?_ _ | ((with_reducible refine Chg.setCell ?_ ?_ _); rotate_left; (first | (focus (left; assumption)) | (focus (left; simp; done)) | (focus (right; simp; done)) | (focus (right; simp; omega)) | (focus (left; simp; omega)))) | ((with_reducible refine Chg.in_ ?_ _ ?_); rotate_left; (first | assumption | (focus (intro i hi; left; simp at hi; subst hi; assumption)) | exact fun i hi => Or.inl hi | (focus (intro i hi; left; simp [hi]; done)) | (focus (intro i hi; left; simp at hi ⊢; simp [hi]; done)) | (focus (intro i hi; simp at hi ⊢; simp [hi]; done)) | (focus (intro i hi; simp at hi ⊢; omega))))))) ?_
  with_reducible refine M2.mixL_quiet 1 (by kernel_rfl) ?_
  simp only [List.take_succ_cons, List.take_zero, List.drop_succ_cons, List.drop_zero]
  repeat (go_big_quiet_step (fail))
  with_reducible refine wpQuiet_nil ?_
  with_reducible refine M2.mixL_eff (by decide) ?_
  go_wp2_with (fail)
  refine M2.MixQ.mk (chg_of (by repeat (first | with_reducible exact Chg.refl _ _ | (focus (refine ChS.chg ?_; (repeat (first | with_reducible exact ChS.refl _ _ | with_reducible refine ChS.drewl ?_ | with_reducible refine ChS.drewr ?_ | with_reducible refine ChS.over ?_ _ | with_reducible refine chS_chgs ?_ _ | ((with_reducible refine chS_set ?_ _ ?_ _); rotate_left; (first | assumption | (focus (simp; done)) | (focus (simp; assumption)))) | with_reducible refine ChS.alloc ?_ _ | ((with_reducible refine ChS.lit ?_ ?_ _ _); rotate_left; (first | assumption | (focus (simp; done)) | (focus (simp; assumption)))) | with_reducible refine ChS.alloc ?_ _)); done)) | with_reducible refine Chg.alloc ?_ _ | with_reducible refine Chg.drew ?_ | with_reducible refine Chg.on ?_ _ | ((with_reducible refine Chg.setCell ?_ ?_ _); rotate_left; (first | (focus (left; assumption)) | (focus (left; simp; done)) | (focus (right; simp; done)) | (focus (right; simp; omega)) | (focus (left; simp; omega)))) | ((with_reducible refine Chg.in_ ?_ _ ?_); rotate_left; (first | assumption | (focus (intro i hi; left; simp at hi; subst hi; assumption)) | exact fun i hi => Or.inl hi | (focus (intro i hi; left; simp [hi]; done)) | (focus (intro i hi; left; simp at hi ⊢; simp [hi]; done)) | (focus (intro i hi; simp at hi ⊢; simp [hi]; done)) | (focus (intro i hi; simp at hi ⊢; omega))))))) ?_
  with_reducible refine M2.mixL_quiet 1 (by kernel_rfl) ?_
  simp only [List.take_succ_cons, List.take_zero, List.drop_succ_cons, List.drop_zero]
  repeat (go_big_quiet_step (fail))
  with_reducible refine wpQuiet_nil ?_
  with_reducible refine M2.mixL_nil ?_
  with_reducible refine M2.mixL_nil ?_
  go_wp2_with fail
  (try simp only [Exit.inBlock, Exit.then])
  refine bodyPost_ret (v := ?rv118) ?rh118 rfl ?rp118
  case rh118 => (simp only [results, show Tryd.f35.results = #[.cell 6 47, .tmp 7, .cell 8 42, .tmp 9] from rfl]; go_simp; rfl)
  exact ⟨(by (try unfold Ov); repeat (first | with_reducible exact O7.out | with_reducible exact O7.out | with_reducible refine ex_undrew ?_ | with_reducible refine ex_into ?_ _ | with_reducible refine ex_alloc ?_ _ | with_reducible refine ex_drew ?_ | ((with_reducible refine ex_setCell ?_ ?_ _); rotate_left; (first | omega | (focus (simp; done)) | (focus (simp; omega)))) | ((with_reducible refine ex_chg ?_ _ ?_); rotate_left; (first | assumption | (exact Hid.out (by assumption)))) | exact ex_over)), rfl⟩

set_option maxRecDepth 100000 in
set_option maxHeartbeats 8000000 in
theorem rcget_on2 (l : List Bool) (hl : l.length ≤ 700000) (a : Option Addr) (cap : Nat) (at_ : Int) (hat : i64ok at_) (e : En) (he : e.wf) (hse : soundE e = true) (ht : (getT l at_ e).2.2.2 = true) (h0 : e.n ≠ 0) (hq : ¬ (getX l (getT l at_ e).2.2.1 e.val).2.2.2 = 0) (w : World) (hb : SlB w a cap (pack l)) :
    Calls Tryd.prog 35 #[bv a (pack l).length cap l.length, .int .i64 at_, e.v] w (Ret w (rcgV (getC l at_ e))) := by
  have H1 := hid (fun W hW => rsound_any (pack l) pack_lt (pack_len_le (by omega)) l.length (by omega) a cap W hW)
  rw [sound_pack] at H1
  have HS := hid (fun W => rcsound_any e he W)
  rw [hse] at HS
  have hok := getT_ok ht he
  have hn64 : -9223372036854775808 ≤ (getT l at_ e).2.2.1 ∧ (getT l at_ e).2.2.1 ≤ 9223372036854775807 := by have := hok.1; have := hok.2.1; have := hok.2.2.1; omega
  have hnn : 0 ≤ (getT l at_ e).2.2.1 ∧ (getT l at_ e).2.2.1 ≤ 700000 := by have := hok.1; have := hok.2.1; have := hok.2.2.1; omega
  clear hok
  have hsv := soundE_val hse
  have hx : getC l at_ e = if (getX l (getT l at_ e).2.2.1 e.val).2.2.2 ≠ 0 then ((0, 0), 0, En.zero, 61) else (((getT l at_ e).1, (getX l (getT l at_ e).2.2.1 e.val).1), (getX l (getT l at_ e).2.2.1 e.val).2.1, ⟨wz (e.n + 1), (getT l at_ e).1, (getT l at_ e).2.1, (getX l (getT l at_ e).2.2.1 e.val).2.2.1⟩, 0) := by
    conv => lhs; unfold getC
    rw [if_neg (by rw [ht]; decide)]
  rw [hx]
  clear hx hse
  unfold i64ok at hat
  obtain ⟨n0, last, delta, val⟩ := e
  obtain ⟨⟨q1, q2⟩, ⟨q3, q4⟩, ⟨q5, q6⟩, hval⟩ := he
  simp only at q1 q2 q3 q4 q5 q6 hval hsv h0
  unfold getT at *
  simp only [if_neg h0] at ht hn64 hnn hq ⊢
  have h0' : (n0 == 0) = false := by simp; exact h0
  have HZ := hid (fun W h1 => rzget_yes l (by omega) a cap at_ hat W h1)
  obtain ⟨⟨d, nx, er0⟩, hg⟩ : ∃ p, getZ l at_ = p := ⟨_, rfl⟩
  rw [hg] at ht HZ hn64 hnn hq ⊢
  simp only [Bool.and_eq_true, decide_eq_true_eq] at ht hn64 hnn hq ⊢
  obtain ⟨hr, hlt⟩ := ht
  subst hr
  have hw1 : wrap64 (IntKind.u64.wrap (IntKind.u64.wrap d + IntKind.u64.wrap delta)) = wz (d + delta) := by simp only [IntKind.wrap_u64]; unfold wrap64 wz; omega
  have hw2 : wrap64 (IntKind.u64.wrap (IntKind.u64.wrap last + IntKind.u64.wrap (wz (d + delta)))) = wz (last + wz (d + delta)) := by simp only [IntKind.wrap_u64]; generalize wz (d + delta) = D; unfold wrap64 wz; omega
  have HZ' : Hid (∀ W, SlB W a cap (pack l) → Calls Tryd.prog 66 #[bv a (pack l).length cap l.length, .int .i64 at_] W (Ret W (.tuple #[.int .i64 d, .int .i64 nx, .int .i64 0]))) := HZ
  clear HZ hg
  generalize wz (d + delta) = D at *
  generalize wz (last + D) = T at *
  have HX := hid (fun W h1 => rxget_yes l (by omega) a cap nx hn64 val hval hsv W h1)
  have hxv := getX_lt (l := l) (at_ := nx) hval
  obtain ⟨⟨v, m, s, er⟩, hgx⟩ : ∃ p, getX l (nx) val = p := ⟨_, rfl⟩
  rw [hgx] at HX hxv hq ⊢
  simp only at HX hxv hq ⊢
  clear hgx hsv
  obtain ⟨hval1, hval2, hval3⟩ := hval
  have hr := hq
  clear hq
  rw [if_pos hr]
  have hr' : ((er : Int) != 0) = true := by simp; exact hr
  clear hr
  go_enter Tryd.func35, Tryd.ntmps35
  go_wp2_with (first | (go_at_call 46; (with_reducible refine (H1.out _ (by repeat (first | with_reducible exact hb | with_reducible refine Sl.over ?_ _ | with_reducible refine Sl.alloc ?_ _ | with_reducible refine Sl.drew ?_ | exact hb))).mono ?_); rintro _ _ ⟨⟨e1, rfl⟩, rfl⟩) | (go_at_call 52; (with_reducible refine (HS.out _).mono ?_); rintro _ _ ⟨⟨e2, rfl⟩, rfl⟩) | (go_at_call 66; (with_reducible refine (HZ'.out _ (by repeat (first | with_reducible exact hb | with_reducible refine Sl.over ?_ _ | with_reducible refine Sl.alloc ?_ _ | with_reducible refine Sl.drew ?_ | exact hb))).mono ?_); rintro _ _ ⟨⟨e3, rfl⟩, rfl⟩) | (go_at_call 32; (with_reducible refine (HX.out _ (by repeat (first | with_reducible exact hb | with_reducible refine Sl.over ?_ _ | with_reducible refine Sl.alloc ?_ _ | with_reducible refine Sl.drew ?_ | exact hb))).mono ?_); rintro _ _ ⟨⟨e4, rfl⟩, rfl⟩))
  (try simp only [Exit.inBlock, Exit.then])
  refine bodyPost_ret (v := ?rv119) ?rh119 rfl ?rp119
  case rh119 => (simp only [results, show Tryd.f35.results = #[.cell 6 47, .tmp 7, .cell 8 42, .tmp 9] from rfl]; go_simp; rfl)
  exact ⟨(by (try unfold Ov); repeat (first | with_reducible exact ex_over | with_reducible exact over_self _ | with_reducible refine ex_undrew ?_ | with_reducible refine ex_into ?_ _ | with_reducible refine ex_alloc ?_ _ | with_reducible refine ex_drew ?_ | ((with_reducible refine ex_setCell ?_ ?_ _); rotate_left; (first | omega | (focus (simp; done)) | (focus (simp; omega)))) | ((with_reducible refine ex_chg ?_ _ ?_); rotate_left; (first | assumption | (exact Hid.out (by assumption)))) | exact ex_over)), rfl⟩

theorem rcget_live (l : List Bool) (hl : l.length ≤ 700000) (a : Option Addr) (cap : Nat) (at_ : Int) (hat : i64ok at_) (e : En) (he : e.wf) (hse : soundE e = true) (ht : (getT l at_ e).2.2.2 = true) (w : World) (hb : SlB w a cap (pack l)) :
    Calls Tryd.prog 35 #[bv a (pack l).length cap l.length, .int .i64 at_, e.v] w (Ret w (rcgV (getC l at_ e))) := by
  by_cases h0 : e.n = 0
  · by_cases hr : (getX l (getT l at_ e).2.2.1 e.val).2.2.2 = 0
    · exact rcget_new1 l hl a cap at_ hat e he hse ht h0 hr w hb
    · exact rcget_new2 l hl a cap at_ hat e he hse ht h0 hr w hb
  · by_cases hr : (getX l (getT l at_ e).2.2.1 e.val).2.2.2 = 0
    · exact rcget_on1 l hl a cap at_ hat e he hse ht h0 hr w hb
    · exact rcget_on2 l hl a cap at_ hat e he hse ht h0 hr w hb

/-- The document's Get. -/
theorem rcget_yes (l : List Bool) (hl : l.length ≤ 700000) (a : Option Addr) (cap : Nat) (at_ : Int) (hat : i64ok at_) (e : En) (he : e.wf) (hse : soundE e = true) (w : World) (hb : SlB w a cap (pack l)) :
    Calls Tryd.prog 35 #[bv a (pack l).length cap l.length, .int .i64 at_, e.v] w (Ret w (rcgV (getC l at_ e))) := by
  cases ht : (getT l at_ e).2.2.2
  · rw [show getC l at_ e = ((0, 0), 0, En.zero, 61) by unfold getC; rw [if_pos ht]]
    exact rcget_dead l hl a cap at_ hat e he hse ht w hb
  · exact rcget_live l hl a cap at_ hat e he hse ht w hb
end Go.Proofs.YthljlajdkdgieaaDoor
