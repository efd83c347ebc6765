import Derived.Test.YtnffcckhdedhpaaGreatDoorKC
import Derived.Test.YtnffcckhdedhpaaGreatDoorRcO
import Derived.Test.YtnffcckhdedhpaaGreatDoorLD
import Derived.Test.YtnffcckhdedhpaaGreatDoorHD
import Derived.Test.YtnffcckhdedhpaaGreatDoorGN
import Derived.Test.YtnffcckhdedhpaaGreatDoorHE
import Derived.Test.YtnffcckhdedhpaaGreatDoorGA
import Derived.Test.YtnffcckhdedhpaaGreatDoorBkC
import Derived.Test.YtnffcckhdedhpaaGreatDoorLC
namespace Go.Proofs.YtnffcckhdedhpaaGreatDoor
set_option linter.unusedVariables false
set_option linter.unusedSimpArgs false
set_option maxRecDepth 100000
set_option maxHeartbeats 8000000
section
open Go.RowKit
attribute [local go_sem] odr cdr
attribute [local go_sem high] place_eql place_neq
theorem goodC_take {c : List Sm} (h : goodC En.zero c) (n : Nat) : goodC En.zero (c.take n) := by
 rw [← List.take_append_drop n c, goodC_app] at h; exact h.1
theorem Sl.takeR {α : Type} {sz : Nat} {cells : α → List Value} {w : World} {a : Option Addr} {cap : Nat} {xs : List α} (h : Sl sz cells w a cap xs) (n : Nat) : Sl sz cells w a cap (xs.take n) :=
 ⟨by rw [List.length_take]; have := h.le; omega, h.max, h.nul, fun i x hx => h.rec_ i x (by rw [List.getElem?_take] at hx; split at hx; exact hx; cases hx)⟩
def RcB (w : World) (L : List Bool) (ev : Value) (en : Ending) (w' : World) : Prop := ∃ a c, en = .returned (.tuple #[bv a (pack L).length c L.length, ev, .int .i64 0]) ∧ (∃ x, w' = over w x) ∧ OwnB w.heap.size w' (.slice a (pack L).length c) (pack L)
structure RcE (c : List Sm) (n : Nat) (n0 n1 n2 : Int) (n3 : Bool) (n4 n5 n6 : Nat) : Prop where
 of : ∀ a cap w, TabW w → SlM w a cap c → Calls Tryz.prog 88 #[.slice a n cap] w (RcB w (bitsC En.zero (c.take n)) (.agg #[.int .i64 n0, .int .i64 n1, .int .i64 n2, .bool n3, .int .u64 (n4 : Nat), .int .u8 (n5 : Nat), .int .u8 (n6 : Nat)]))
 of2 : ∀ a cap w, TabW w → SlM w a cap (c.take n) → Calls Tryz.prog 88 #[.slice a n cap] w (RcB w (bitsC En.zero (c.take n)) (.agg #[.int .i64 n0, .int .i64 n1, .int .i64 n2, .bool n3, .int .u64 (n4 : Nat), .int .u8 (n5 : Nat), .int .u8 (n6 : Nat)]))
theorem rcof_n {c : List Sm} (hok : ChkOk c) {n : Nat} (hn : n ≤ c.length) : ∃ n0 n1 n2 n3 n4 n5 n6, RcE c n n0 n1 n2 n3 n4 n5 n6 := by
 obtain ⟨e, he⟩ : ∃ e, knowC En.zero (c.take n) = e := ⟨_, rfl⟩; obtain ⟨n0, n1, n2, ⟨n3, n4, n5, n6⟩⟩ := e; have hl := hok.len; have h0 : ∀ a cap w, TabW w → SlM w a cap (c.take n) → Calls Tryz.prog 88 #[.slice a n cap] w (RcB w (bitsC En.zero (c.take n)) (.agg #[.int .i64 n0, .int .i64 n1, .int .i64 n2, .bool n3, .int .u64 (n4 : Nat), .int .u8 (n5 : Nat), .int .u8 (n6 : Nat)])) := fun a cap w hT hs => by
  have h := rcof_any (c.take n) (fun s hs => hok.wf s (List.mem_of_mem_take hs)) (by rw [List.length_take]; omega) a cap w hT hs; rw [ofC_good (goodC_take hok.good n), List.length_take, Nat.min_eq_left hn, he] at h; exact h
 exact ⟨n0, n1, n2, n3, n4, n5, n6, ⟨fun a cap w hT hs => h0 a cap w hT (Sl.takeR hs n), h0⟩⟩
theorem ck_at {ck : List Rc} {s : Sr} (h : ck.map Rc.p = ckOf s) {k : Nat} {c : List Sm} {b : Bool} (ha : s.at_ k = some (c, b)) : ∃ hk : k < ck.length, ck[k].l = c ∧ ck[k].cl = b := by
 have hl : ck.length = s.cl.length + 1 := by have := congrArg List.length h; rw [List.length_map, ckOf_len] at this; exact this
 have h2 := congrArg (fun l => l[k]?) h; simp only [List.getElem?_map] at h2; unfold Sr.at_ at ha; split at ha
 · rename_i hk
   have hk2 : k < ck.length := by omega
   refine ⟨hk2, ?_⟩; simp only [Option.some.injEq, Prod.mk.injEq] at ha; rw [List.getElem?_eq_getElem hk2] at h2; unfold ckOf at h2; rw [List.getElem?_append_left (by simp; exact hk)] at h2; simp [hk, Rc.p] at h2; exact ⟨h2.1.trans ha.1, h2.2.trans ha.2⟩
 · split at ha
   · rename_i hk0 hk
     have hk2 : k < ck.length := by omega
     refine ⟨hk2, ?_⟩; simp only [Option.some.injEq, Prod.mk.injEq] at ha; rw [List.getElem?_eq_getElem hk2] at h2; unfold ckOf at h2; rw [List.getElem?_append_right (by simp; omega)] at h2; simp [hk, Rc.p] at h2; subst hk; exact ⟨h2.1.trans ha.1, h2.2.trans ha.2⟩
   · cases ha
theorem ck_len {ck : List Rc} {s : Sr} (h : ck.map Rc.p = ckOf s) : ck.length = s.cl.length + 1 := by have := congrArg List.length h; rw [List.length_map, ckOf_len] at this; exact this
theorem at_ok {s : Sr} (hok : SrOk s) {k : Nat} {c : List Sm} {b : Bool} (ha : s.at_ k = some (c, b)) : ChkOk c ∧ k ≤ s.cl.length := by
 unfold Sr.at_ at ha; split at ha
 · rename_i hk
   simp only [Option.some.injEq, Prod.mk.injEq] at ha; rw [← ha.1]; exact ⟨(hok.cl _ (List.getElem_mem hk)).2, by omega⟩
 · split at ha
   · simp only [Option.some.injEq, Prod.mk.injEq] at ha; rw [← ha.1]; exact ⟨hok.op, by omega⟩
   · cases ha
theorem rplace_any {ck : List Rc} {k n : Nat} (hk : k < ck.length) (hok : ChkOk ck[k].l) (hn : n ≤ ck[k].l.length) (hk32 : k < 4294967296) (a : Option Addr) (cap : Nat) (w : World) (hT : TabW w) (hr : Sl 2 Rc.cs w a cap ck) (hrs : ∀ x ∈ ck, SlM w x.a x.c x.l) :
    Calls Tryz.prog 87 #[.slice a ck.length cap, .int .i64 (k : Nat), .int .i64 (n : Nat)] w (Ret w (.agg #[.int .u32 (k : Nat), .int .u32 (blen ck[k].l n : Nat), .int .u32 (n : Nat)])) := by
  have hrow := hrs _ (List.getElem_mem hk); obtain ⟨n0, n1, n2, n3, n4, n5, n6, HO⟩ := rcof_n hok hn; have hl := hok.len; have hb := blen_le hok n; obtain ⟨cb, co, rfl, hcb, q0, q1⟩ := SlC.at_ hr hk; obtain ⟨x, hx⟩ : ∃ x, ck[k]'hk = x := ⟨_, rfl⟩; rw [hx] at hok hn hrow HO hl hb q0 ⊢; obtain ⟨xa, xc, c, xcl⟩ := x; simp only at hok hn hrow HO hl hb q0 ⊢; have hle := hrow.le; have hmx := hrow.max; have hnul := hrow.nul; unfold blen at hb ⊢; obtain ⟨LL, hLL⟩ : ∃ LL, bitsC En.zero (c.take n) = LL := ⟨_, rfl⟩; have HO := hid HO.of; rw [hLL] at HO hb ⊢; have hn2 : n ≤ 24 := by omega
  have hd : decide (k < ck.length) = true := decide_eq_true hk; clear hok hLL q1 hx hrs hr hd; have hw1 : IntKind.u32.wrap (k : Int) = (k : Int) := by rw [IntKind.wrap_u32]; omega
  have hw2 : IntKind.u32.wrap (n : Int) = (n : Int) := by rw [IntKind.wrap_u32]; omega
  have hw3 : IntKind.u32.wrap (LL.length : Int) = (LL.length : Int) := by rw [IntKind.wrap_u32]; omega
  cases xa with
  | none =>
   have hc0 := hnul rfl; subst hc0; have hn0 : n = 0 := by omega
   subst hn0
   go_enter Tryz.func87, Tryz.ntmps87; go_wp2_with ((go_at_call 88); (with_reducible refine (HO.out _ _ _ (by exact tabA hT) (by exact slA hrow)).mono ?_); rintro _ _ ⟨a2, c2, rfl, ⟨e, rfl⟩, ho⟩; clear ho)
   (try simp only [Exit.inBlock, Exit.then])
   refine bodyPost_ret (v := ?rv97) ?rh97 rfl ?rp97
   case rh97 => (simp only [results, show Tryz.f87.results = #[.cell 6 46] from rfl]; go_simp; rfl)
   exact ⟨ovA, rfl⟩
  | some ad =>
   go_enter Tryz.func87, Tryz.ntmps87; go_wp2_with ((go_at_call 88); (with_reducible refine (HO.out _ _ _ (by exact tabA hT) (by exact slA hrow)).mono ?_); rintro _ _ ⟨a2, c2, rfl, ⟨e, rfl⟩, ho⟩; clear ho)
   (try simp only [Exit.inBlock, Exit.then])
   refine bodyPost_ret (v := ?rv98) ?rh98 rfl ?rp98
   case rh98 => (simp only [results, show Tryz.f87.results = #[.cell 6 46] from rfl]; go_simp; rfl)
   exact ⟨ovA, rfl⟩
theorem rend_any {base : Nat} {w : World} {p sz : Nat} {v : Value} {rs : List Rr} {R : List (Nat × Sr)} (h : RbAt base w p sz v rs R) (hT : TabW w) (id : Nat) (hlen2 : rs.length ≤ 1000000) {s : Sr} (hs : getS R id = s) (hok : SrOk s) (hcl : s.cl.length ≤ 100000) :
    Calls Tryz.prog 86 #[.pointer (some ⟨p, 0, none⟩), .int .u32 (id : Nat)] w (Ret w (.agg #[.int .u32 (s.fin.chunk : Nat), .int .u32 (s.fin.bits : Nat), .int .u32 (s.fin.count : Nat)])) := by
  have HC := hid (fun W (hW : ∃ e, W = over w e) => rchunks_any (RbAt.ov h hW) id hlen2); rw [hs] at HC; have ha : s.at_ s.cl.length = some (s.op, false) := by simp [Sr.at_]
  have hTw := hT; have hok2 := hok.op; have hopl := hok2.len; unfold Sr.fin; simp only; obtain ⟨bl, hbl⟩ : ∃ z, blen s.op s.op.length = z := ⟨_, rfl⟩; obtain ⟨m, hm⟩ : ∃ m, s.cl.length = m := ⟨_, rfl⟩; obtain ⟨on, hon⟩ : ∃ m, s.op.length = m := ⟨_, rfl⟩; rw [hm] at ha hcl; rw [hon] at hopl; rw [hbl, hm, hon]; have HBL := hid hbl; have HM := hid hm; have HON := hid hon; clear h hs hok hbl hm hon
  go_enter Tryz.func86, Tryz.ntmps86
  go_wp2_with (first
    | (go_at_call 25
       (with_reducible refine (HC.out _ ovA).mono ?_)
       rintro _ w1 ⟨⟨e1, hw1⟩, ca, cc, ck, rfl, hck, hcs⟩; have O1 : Hid (∃ e, w1 = over w e) := hid (by rw [hw1]; exact ovA); have hT1 := TabW.ov hTw O1.out; have B1 : Hid (Blk w1 w.heap.size [.int .u32 0, .int .u32 0, .int .u32 0] 46) := hid (by rw [hw1]; exact Blk.on (Blk.new' rfl) _); obtain ⟨hk, hl, hl9⟩ := ck_at hcs ha; have hkl := ck_len hcs; rw [HM.out] at hkl; have HP := hid (fun W (hW : ∃ e, W = over w1 e) => rplace_any hk (by rw [hl]; exact hok2) (n := s.op.length) (by rw [hl]; exact Nat.le_refl _) (by omega) ca cc W (TabW.ov hT1 hW) (Sl.ov hck.row hW) (fun x hx => Sl.ov (hck.rows x hx) hW)); rw [hl, HBL.out, HON.out] at HP; obtain ⟨cb, co, rfl, hcb, q0, q1⟩ := SlC.at_ hck.row hk; obtain ⟨x, hx⟩ : ∃ x, ck[m]'hk = x := ⟨_, rfl⟩; rw [hx] at q0 hl; rw [hl, HON.out] at q0; rw [hkl] at HP; have hk9 : m < m + 1 := Nat.lt_succ_self _; rw [hkl]; have b0 := B1.out.cell 0 rfl; have b1 := B1.out.cell 1 rfl; have b2 := B1.out.cell 2 rfl; have lb := B1.out.lt; have fb : ∀ j, w1.frozen? ⟨w.heap.size, j, none⟩ = false := fun j => B1.out.free j; clear hl9 hw1 hck hcs hl hkl hx q1 hT1 ha)
    | (go_at_call 87; (with_reducible refine (HP.out _ ovA).mono ?_); rintro _ _ ⟨⟨e1, rfl⟩, rfl⟩))
  (try simp only [Exit.inBlock, Exit.then])
  refine bodyPost_ret (v := ?rv99) ?rh99 rfl ?rp99
  case rh99 => (simp only [results, show Tryz.f86.results = #[.cell 4 46] from rfl]; go_simp; rfl)
  exact ⟨(ovB O1.out), rfl⟩
theorem ris_yes {base : Nat} {w : World} {p sz : Nat} {v : Value} {rs : List Rr} {R : List (Nat × Sr)} (h : RbAt base w p sz v rs R) (hT : TabW w) (id : Nat) (hlen2 : rs.length ≤ 1000000) {s : Sr} (hs : getS R id = s) (hok : SrOk s) (hcl : s.cl.length ≤ 100000) {pc pb pn : Nat} {c : List Sm} {cl : Bool} (hh : s.has ⟨pc, pb, pn⟩ c cl) :
    Calls Tryz.prog 107 #[.pointer (some ⟨p, 0, none⟩), .int .u32 (id : Nat), .agg #[.int .u32 (pc : Nat), .int .u32 (pb : Nat), .int .u32 (pn : Nat)]] w (Ret w (.bool true)) := by
  have HC := hid (fun W (hW : ∃ e, W = over w e) => rchunks_any (RbAt.ov h hW) id hlen2); rw [hs] at HC; obtain ⟨ha, h1, h2, h3⟩ := hh; simp only at ha h1 h2 h3; obtain ⟨hok2, hpc⟩ := at_ok hok ha; have hlc := hok2.len; have hblx := blen_le hok2 pn; have hTw := hT; have hdl : ((pn : Int) == (c.length : Int) && cl) = false := by
   cases cl
   · simp
   · have := h2 rfl; simp; omega
  clear h hs hok; cases cl with
  | false =>
   go_enter Tryz.func107, Tryz.ntmps107
   go_wp2_with (
        (go_at_call 25)
        (with_reducible refine (HC.out _ ovA).mono ?_)
        rintro _ w1 ⟨⟨e1, hw1⟩, ca, cc, ck, rfl, hck, hcs⟩; have O1 : Hid (∃ e, w1 = over w e) := hid (by rw [hw1]; exact ovA); have hT1 := TabW.ov hTw O1.out; have B1 : Hid (Blk w1 w.heap.size [.int .u32 (pc : Nat), .int .u32 (pb : Nat), .int .u32 (pn : Nat)] 46) := hid (by rw [hw1]; exact Blk.on (Blk.new' rfl) _); obtain ⟨hk, hl, hcl2⟩ := ck_at hcs ha; have hkl := ck_len hcs; have HP := hid (fun W (hW : ∃ e, W = over w1 e) => rplace_any hk (by rw [hl]; exact hok2) (n := pn) (by rw [hl]; exact h1) (by omega) ca cc W (TabW.ov hT1 hW) (Sl.ov hck.row hW) (fun x hx => Sl.ov (hck.rows x hx) hW)); rw [hl, h3] at HP; obtain ⟨cb, co, rfl, hcb, q0, q1⟩ := SlC.at_ hck.row hk; obtain ⟨x, hx⟩ : ∃ x, ck[pc]'hk = x := ⟨_, rfl⟩; rw [hx] at q0 q1 hl hcl2; rw [hl] at q0; rw [hcl2] at q1; have b0 := B1.out.cell 0 rfl; have b1 := B1.out.cell 1 rfl; have b2 := B1.out.cell 2 rfl; have lb := B1.out.lt; have hckb : ck.length ≤ 100001 := by omega
        have hw64 : IntKind.u64.wrap (ck.length : Int) = (ck.length : Int) := by rw [IntKind.wrap_u64]; omega
        have hw65 : IntKind.u64.wrap (c.length : Int) = (c.length : Int) := by rw [IntKind.wrap_u64]; omega
        have hd1 : decide (ck.length ≤ pc) = false := decide_eq_false (by omega); have hd2 : decide (c.length < pn) = false := decide_eq_false (by omega); clear hw1 hck hcs hl hcl2 hkl hx hT1 ha h2 h3)
   refine M2.wrm [7] 11 (by kernel_rfl) (by kernel_rfl) (by decide) ?_; simp only [M2.td]; with_reducible refine M2.mlq 7 (by kernel_rfl) ?_
   simp only [M2.td]; repeat (go_big_quiet_step (fail))
   with_reducible refine wpQuiet_nil ?_
   with_reducible refine M2.mle (by decide) ?_
   go_wp2_with ((go_at_call 87; (with_reducible refine (HP.out _ ovA).mono ?_); rintro _ _ ⟨⟨e1, rfl⟩, rfl⟩))
   refine M2.MixQ.mk ovA ?_; with_reducible refine M2.mlq 3 (by kernel_rfl) ?_
   simp only [M2.td]; repeat (go_big_quiet_step (fail))
   with_reducible refine wpQuiet_nil ?_
   with_reducible refine M2.mln ?_
   with_reducible refine M2.mln ?_
   go_wp2; go_ret
   exact ⟨(ovB O1.out), by simp⟩
  | true =>
   have hdl2 : ((pn : Int) == (c.length : Int)) = false := by simpa using hdl
   have hdl3 : (pn == c.length) = false := by rw [beq_eq_false_iff_ne] at hdl2 ⊢; omega
   go_enter Tryz.func107, Tryz.ntmps107
   go_wp2_with (
        (go_at_call 25)
        (with_reducible refine (HC.out _ ovA).mono ?_)
        rintro _ w1 ⟨⟨e1, hw1⟩, ca, cc, ck, rfl, hck, hcs⟩; have O1 : Hid (∃ e, w1 = over w e) := hid (by rw [hw1]; exact ovA); have hT1 := TabW.ov hTw O1.out; have B1 : Hid (Blk w1 w.heap.size [.int .u32 (pc : Nat), .int .u32 (pb : Nat), .int .u32 (pn : Nat)] 46) := hid (by rw [hw1]; exact Blk.on (Blk.new' rfl) _); obtain ⟨hk, hl, hcl2⟩ := ck_at hcs ha; have hkl := ck_len hcs; have HP := hid (fun W (hW : ∃ e, W = over w1 e) => rplace_any hk (by rw [hl]; exact hok2) (n := pn) (by rw [hl]; exact h1) (by omega) ca cc W (TabW.ov hT1 hW) (Sl.ov hck.row hW) (fun x hx => Sl.ov (hck.rows x hx) hW)); rw [hl, h3] at HP; obtain ⟨cb, co, rfl, hcb, q0, q1⟩ := SlC.at_ hck.row hk; obtain ⟨x, hx⟩ : ∃ x, ck[pc]'hk = x := ⟨_, rfl⟩; rw [hx] at q0 q1 hl hcl2; rw [hl] at q0; rw [hcl2] at q1; have b0 := B1.out.cell 0 rfl; have b1 := B1.out.cell 1 rfl; have b2 := B1.out.cell 2 rfl; have lb := B1.out.lt; have hckb : ck.length ≤ 100001 := by omega
        have hw64 : IntKind.u64.wrap (ck.length : Int) = (ck.length : Int) := by rw [IntKind.wrap_u64]; omega
        have hw65 : IntKind.u64.wrap (c.length : Int) = (c.length : Int) := by rw [IntKind.wrap_u64]; omega
        have hd1 : decide (ck.length ≤ pc) = false := decide_eq_false (by omega); have hd2 : decide (c.length < pn) = false := decide_eq_false (by omega); clear hw1 hck hcs hl hcl2 hkl hx hT1 ha h2 h3)
   refine M2.wrm [7] 11 (by kernel_rfl) (by kernel_rfl) (by decide) ?_; simp only [M2.td]; with_reducible refine M2.mlq 7 (by kernel_rfl) ?_
   simp only [M2.td]; repeat (go_big_quiet_step (fail))
   with_reducible refine wpQuiet_nil ?_
   with_reducible refine M2.mle (by decide) ?_
   go_wp2_with ((go_at_call 87; (with_reducible refine (HP.out _ ovA).mono ?_); rintro _ _ ⟨⟨e1, rfl⟩, rfl⟩))
   refine M2.MixQ.mk ovA ?_; with_reducible refine M2.mlq 3 (by kernel_rfl) ?_
   simp only [M2.td]; repeat (go_big_quiet_step (fail))
   with_reducible refine wpQuiet_nil ?_
   with_reducible refine M2.mln ?_
   with_reducible refine M2.mln ?_
   go_wp2; go_ret
   exact ⟨(ovB O1.out), by simp⟩
end
section
open Go.RowKit
attribute [local go_sem] odr cdr
attribute [local go_sem high] place_eql place_neq
theorem rof5_any (l : List Bool) (hl : l.length ≤ 900000) (a : Option Addr) (cap : Nat) (w : World) (hb : SlB w a cap (pack l)) :
    Calls Tryz.prog 40 #[bv a (pack l).length cap l.length] w (Ret w (.tuple #[.int .u64 (moreR 0 l : Nat), .int .i64 0])) := by
  have HM : Hid (∀ W, SlB W a cap (pack l) → Calls Tryz.prog 66 #[.int .u64 0, bv a (pack l).length cap l.length] W (Ret W (.tuple #[.int .u64 (moreR 0 l : Nat), .int .i64 0]))) := hid (fun W hW => rmore_any 0 (by decide) l hl a cap W hW); generalize moreR 0 l = sm at *
  go_enter Tryz.func40, Tryz.ntmps40; go_wp2_with (go_at_call 66; (with_reducible refine (HM.out _ (by exact slA hb)).mono ?_); rintro _ _ ⟨⟨e1, rfl⟩, rfl⟩)
  go_ret2
  exact ⟨ovA, rfl⟩
theorem rck_there {base : Nat} {w : World} {p sz : Nat} {v : Value} {rs : List Rr} {R : List (Nat × Sr)} (h : RbAt base w p sz v rs R) (id : Nat) (hlen2 : rs.length ≤ 1000000) {s : Sr} (hs0 : getS R id = s) (ht : rthere R id) :
    ∃ a c k, CkAt (p :: v.ownBlock.toList) w a c k ∧ k.map Rc.p = ckOf s ∧ ∀ W, (∃ e, W = over w e) → Calls Tryz.prog 25 #[.pointer (some ⟨p, 0, none⟩), .int .u32 (id : Nat)] W (Ret W (.slice a (k : List Rc).length c)) := by
  have HF := hid (fun W (hW : ∃ e, W = over w e) => rfind_any (RbAt.ov h hW) hlen2 id); have HP := hid (fun W (hW : ∃ e, W = over w e) => (RbAt.ov h hW).blk); have hb := rthB_iff.2 ht; rw [hb] at HF; have hg := rget_yes h.sort ht; rw [hs0] at hg; obtain ⟨h1, h2⟩ := ht; have hl := h.len; have h3 : rix R id < rs.length := by omega
  obtain ⟨g, cap, hv, hgl, c0, c1, _⟩ := h.cell h3; obtain ⟨_, h4, h5⟩ := h.at_ h3; have hser := h.ser _ (List.getElem_mem h3); subst hv; obtain ⟨x, hx⟩ : ∃ x, rs[rix R id]'h3 = x := ⟨_, rfl⟩; rw [hx] at c1 h5 hser; rw [← hg] at h5; have hp2 := h.blk.cell 2 rfl; have hpl := h.blk.lt; refine ⟨x.a, x.c, x.k, hser, h5, ?_⟩; rintro _ ⟨e0, rfl⟩; have HF := hid (fun W (hW : ∃ e, W = over (over w e0) e) => HF.out W (ov_tr ⟨e0, rfl⟩ hW)); obtain ⟨r, hr⟩ : ∃ r, rix R id = r := ⟨_, rfl⟩; rw [hr] at HF c1 h3; have hd : decide (r < rs.length) = true := decide_eq_true h3; clear h hb hg h2 h4 h5 hser hx hr c0 HP
  go_enter Tryz.func25, Tryz.ntmps25; go_wp2_with (go_at_call 56; (with_reducible refine (HF.out _ ovA).mono ?_); rintro _ _ ⟨⟨e1, rfl⟩, rfl⟩)
  go_ret
  exact ⟨ovA, rfl⟩
theorem rthere_ne {R : List (Nat × Sr)} (hs : SortR R) {id : Nat} {s : Sr} (hg : getS R id = s) (h : s.all ≠ []) : rthere R id := by
 by_cases ht : rthere R id
 · exact ht
 · rw [rget_no hs ht] at hg; subst hg; exact absurd rfl h
theorem has_there {s : Sr} {pc : Nat} {c : List Sm} {cl : Bool} (ha : s.at_ pc = some (c, cl)) (hc : c ≠ []) : s.all ≠ [] := by
 unfold Sr.at_ at ha; unfold Sr.all; split at ha
 · simp only [Option.some.injEq, Prod.mk.injEq] at ha; intro h; rw [List.append_eq_nil_iff] at h; have := List.flatten_eq_nil_iff.1 h.1 c (by rw [← ha.1]; exact List.getElem_mem _); exact hc this
 · split at ha
   · simp only [Option.some.injEq, Prod.mk.injEq] at ha; intro h; rw [List.append_eq_nil_iff] at h; exact hc (by rw [← ha.1]; exact h.2)
   · cases ha
theorem rsum_yes {base : Nat} {w : World} {p sz : Nat} {v : Value} {rs : List Rr} {R : List (Nat × Sr)} (h : RbAt base w p sz v rs R) (hT : TabW w) (id : Nat) (hlen2 : rs.length ≤ 1000000) {s : Sr} (hs : getS R id = s) (hok : SrOk s) (hcl : s.cl.length ≤ 100000) (ht : rthere R id) {pc pb pn : Nat} {c : List Sm} {cl : Bool} (hh : s.has ⟨pc, pb, pn⟩ c cl) :
    Calls Tryz.prog 85 #[.pointer (some ⟨p, 0, none⟩), .int .u32 (id : Nat), .agg #[.int .u32 (pc : Nat), .int .u32 (pb : Nat), .int .u32 (pn : Nat)]] w (Ret w (.tuple #[.int .u64 (sumP c pn : Nat), .int .i64 0])) := by
  have HI := hid (fun W (hW : ∃ e, W = over w e) => ris_yes (RbAt.ov h hW) (TabW.ov hT hW) id hlen2 hs hok hcl hh); obtain ⟨ca, cc, ck, hck, hcs, HC⟩ := rck_there h id hlen2 hs ht; have HC := hid HC; obtain ⟨ha, h1, h2, h3⟩ := hh; simp only at ha h1 h2 h3; obtain ⟨hok2, hpc⟩ := at_ok hok ha; have hlc := hok2.len; obtain ⟨n0, n1, n2, n3, n4, n5, n6, HO⟩ := rcof_n hok2 h1; have HO := hid HO.of2; unfold sumP; have hbl : (bitsC En.zero (c.take pn)).length ≤ 3504 := blen_le hok2 pn; obtain ⟨LL, hLL⟩ : ∃ LL, bitsC En.zero (c.take pn) = LL := ⟨_, rfl⟩; rw [hLL] at HO hbl ⊢; have HS := hid (fun a cap W hW => rof5_any LL (by omega) a cap W hW); obtain ⟨hk, hl, hl9⟩ := ck_at hcs ha; have hrow := hck.rows _ (List.getElem_mem hk); rw [hl] at hrow; obtain ⟨cb, co, rfl, hcb, q0, q1⟩ := SlC.at_ hck.row hk; rw [hl] at q0; obtain ⟨ra, hra⟩ : (∃ z, (ck[pc]'hk).a = z) := ⟨_, rfl⟩; obtain ⟨rc, hrc⟩ : (∃ z, (ck[pc]'hk).c = z) := ⟨_, rfl⟩; rw [hra, hrc] at hrow q0; obtain ⟨ra2, rc2, q7, s7⟩ := run_take sample_elem hrow h1; rw [List.length_take, Nat.min_eq_left h1] at q7; have HS7 := hid s7; have hd : decide (pc < ck.length) = true := decide_eq_true hk; clear h hs hok hLL hck hcs hl hl9 hrow q1 hra hrc s7 ht ha h2
  go_enter Tryz.func85, Tryz.ntmps85; go_wp2_with (go_at_call 107; (with_reducible refine (HI.out _ ovA).mono ?_); rintro _ _ ⟨⟨e1, rfl⟩, rfl⟩)
  apply rg4 (F := fun q1 q2 a9 c9 W => (∃ e, W = over w e) ∧ Blk W q1 [.slice a9 (pack LL).length c9, .int .i64 (LL.length : Nat)] 49 ∧ SlB W a9 c9 (pack LL))
  case h1 =>
   refine M2.wp_region_tree (fun w' => ∃ e : World, w' = over _ e) [2, 11, 16, 17, 18, 19] (.q 0 (.q 1 (.q 3 (.q 4 (.q 8 (.q 9 (.e 2 (.q 5 (.q 6 (.q 7 (.q 10 (.e 11 (.q 12 (.q 13 (.q 14 (.q 15 (.e 16 (.e 17 (.e 18 (.e 19 (.q 20 .done) .no) .no) .no) (.e 17 (.e 16 (.e 18 (.e 19 (.q 20 .done) .no) .no) .no) .no)))))) (.e 16 (.e 11 (.q 12 (.q 13 (.q 14 (.q 15 (.e 17 (.e 18 (.e 19 (.q 20 .done) .no) .no) .no))))) (.e 17 (.e 11 (.q 12 (.q 13 (.q 14 (.q 15 (.e 18 (.e 19 (.q 20 .done) .no) .no))))) .no) .no)) (.e 17 (.e 11 (.q 12 (.q 13 (.q 14 (.q 15 (.e 16 (.e 18 (.e 19 (.q 20 .done) .no) .no) .no))))) (.e 16 (.e 11 (.q 12 (.q 13 (.q 14 (.q 15 (.e 18 (.e 19 (.q 20 .done) .no) .no))))) .no) .no)) .no))))))) (.e 16 (.e 2 (.q 5 (.q 6 (.q 7 (.q 10 (.e 11 (.q 12 (.q 13 (.q 14 (.q 15 (.e 17 (.e 18 (.e 19 (.q 20 .done) .no) .no) .no))))) (.e 17 (.e 11 (.q 12 (.q 13 (.q 14 (.q 15 (.e 18 (.e 19 (.q 20 .done) .no) .no))))) .no) .no)))))) (.e 17 (.e 2 (.q 5 (.q 6 (.q 7 (.q 10 (.e 11 (.q 12 (.q 13 (.q 14 (.q 15 (.e 18 (.e 19 (.q 20 .done) .no) .no))))) .no))))) .no) .no)) (.e 17 (.e 2 (.q 5 (.q 6 (.q 7 (.q 10 (.e 11 (.q 12 (.q 13 (.q 14 (.q 15 (.e 16 (.e 18 (.e 19 (.q 20 .done) .no) .no) .no))))) (.e 16 (.e 11 (.q 12 (.q 13 (.q 14 (.q 15 (.e 18 (.e 19 (.q 20 .done) .no) .no))))) .no) .no)))))) (.e 16 (.e 2 (.q 5 (.q 6 (.q 7 (.q 10 (.e 11 (.q 12 (.q 13 (.q 14 (.q 15 (.e 18 (.e 19 (.q 20 .done) .no) .no))))) .no))))) .no) .no)) .no))))))))) (by kernel_rfl) (by kernel_rfl) (ex_drew (ovs _)) ?_; repeat (refine M2.tree_q rfl rfl ?_; go_big_quiet_step (fail); with_reducible refine wpQuiet_nil ?_)
   refine M2.tree_e (k := 2) rfl ?_ ?_
   · go_wp2_with ((go_at_call 25; (with_reducible refine (HC.out _ ovA).mono ?_); rintro _ _ ⟨⟨e2, rfl⟩, rfl⟩))
     refine M2.TreeQ.mk ovA ?_; repeat (refine M2.tree_q rfl rfl ?_; go_big_quiet_step (fail); with_reducible refine wpQuiet_nil ?_)
     refine M2.tree_e (k := 11) rfl ?_ ?_
     · go_wp2_with ((go_at_call 88; (with_reducible refine (HO.out _ _ _ (by exact tabA hT) (by exact slA HS7.out)).mono ?_); rintro _ _ ⟨a4, c4, rfl, ⟨e4, rfl⟩, o4⟩; (try simp only [odr] at o4); have HO4 := hid o4; clear o4))
       refine M2.TreeQ.mk ovA ?_; repeat (refine M2.tree_q rfl rfl ?_; go_big_quiet_step (fail); with_reducible refine wpQuiet_nil ?_)
       refine M2.tree_e (k := 16) rfl ?_ ?_
       · go_wp2_with (fail)
         refine M2.TreeQ.mk ovA ?_; refine M2.tree_e1 (k := 17) rfl ?_; go_wp2_with (fail)
         refine M2.TreeQ.mk ovA ?_; refine M2.tree_e1 (k := 18) rfl ?_; go_wp2_with (fail)
         refine M2.TreeQ.mk ovA ?_; refine M2.tree_e1 (k := 19) rfl ?_; go_wp2_with (fail)
         refine M2.TreeQ.mk ovA ?_; repeat (refine M2.tree_q rfl rfl ?_; go_big_quiet_step (fail); with_reducible refine wpQuiet_nil ?_)
         refine M2.trd ?_; obtain ⟨q1, hq1⟩ : ∃ q, q = (w.heap.size + 1 + e1.heap.size + e2.heap.size + e4.heap.size) := ⟨_, rfl⟩; obtain ⟨q2, hq2⟩ : ∃ q, q = (w.heap.size + 1 + e1.heap.size + e2.heap.size + e4.heap.size + 1) := ⟨_, rfl⟩; first | rw [← hq2, ← hq1] | rw [← hq1, ← hq2]
         exact RgPost.mk q1 q2 a4 c4 rfl ⟨ovA, by rw [hq1]; exact (by exact blA), (Own.slice' bcs_len (Own.chg (F := [(w.heap.size + 1 + e1.heap.size + e2.heap.size + e4.heap.size), (w.heap.size + 1 + e1.heap.size + e2.heap.size + e4.heap.size + 1)]) HO4.out (by exact chA) (fun g hg => by have := Own.lt HO4.out hg; simp at this ⊢; omega))).2⟩
       refine M2.tree_e (k := 17) rfl ?_ ?_
       · go_wp2_with (fail)
         refine M2.TreeQ.mk ovA ?_; refine M2.tree_e1 (k := 16) rfl ?_; go_wp2_with (fail)
         refine M2.TreeQ.mk ovA ?_; refine M2.tree_e1 (k := 18) rfl ?_; go_wp2_with (fail)
         refine M2.TreeQ.mk ovA ?_; refine M2.tree_e1 (k := 19) rfl ?_; go_wp2_with (fail)
         refine M2.TreeQ.mk ovA ?_; repeat (refine M2.tree_q rfl rfl ?_; go_big_quiet_step (fail); with_reducible refine wpQuiet_nil ?_)
         refine M2.trd ?_; obtain ⟨q1, hq1⟩ : ∃ q, q = (w.heap.size + 1 + e1.heap.size + e2.heap.size + e4.heap.size + 1) := ⟨_, rfl⟩; obtain ⟨q2, hq2⟩ : ∃ q, q = (w.heap.size + 1 + e1.heap.size + e2.heap.size + e4.heap.size) := ⟨_, rfl⟩; first | rw [← hq2, ← hq1] | rw [← hq1, ← hq2]
         exact RgPost.mk q1 q2 a4 c4 rfl ⟨ovA, by rw [hq1]; exact (by exact blA), (Own.slice' bcs_len (Own.chg (F := [(w.heap.size + 1 + e1.heap.size + e2.heap.size + e4.heap.size + 1), (w.heap.size + 1 + e1.heap.size + e2.heap.size + e4.heap.size)]) HO4.out (by exact chA) (fun g hg => by have := Own.lt HO4.out hg; simp at this ⊢; omega))).2⟩
       exact M2.tree_no
     refine M2.tree_e (k := 16) rfl ?_ ?_
     · go_wp2_with (fail)
       refine M2.TreeQ.mk ovA ?_; refine M2.tree_e (k := 11) rfl ?_ ?_
       · go_wp2_with ((go_at_call 88; (with_reducible refine (HO.out _ _ _ (by exact tabA hT) (by exact slA HS7.out)).mono ?_); rintro _ _ ⟨a4, c4, rfl, ⟨e4, rfl⟩, o4⟩; (try simp only [odr] at o4); have HO4 := hid o4; clear o4))
         refine M2.TreeQ.mk ovA ?_; repeat (refine M2.tree_q rfl rfl ?_; go_big_quiet_step (fail); with_reducible refine wpQuiet_nil ?_)
         refine M2.tree_e1 (k := 17) rfl ?_; go_wp2_with (fail)
         refine M2.TreeQ.mk ovA ?_; refine M2.tree_e1 (k := 18) rfl ?_; go_wp2_with (fail)
         refine M2.TreeQ.mk ovA ?_; refine M2.tree_e1 (k := 19) rfl ?_; go_wp2_with (fail)
         refine M2.TreeQ.mk ovA ?_; repeat (refine M2.tree_q rfl rfl ?_; go_big_quiet_step (fail); with_reducible refine wpQuiet_nil ?_)
         refine M2.trd ?_; obtain ⟨q1, hq1⟩ : ∃ q, q = (w.heap.size + 1 + e1.heap.size + e2.heap.size) := ⟨_, rfl⟩; obtain ⟨q2, hq2⟩ : ∃ q, q = (w.heap.size + 1 + e1.heap.size + e2.heap.size + 1 + e4.heap.size) := ⟨_, rfl⟩; first | rw [← hq2, ← hq1] | rw [← hq1, ← hq2]
         exact RgPost.mk q1 q2 a4 c4 rfl ⟨ovA, by rw [hq1]; exact (by exact blA), (Own.slice' bcs_len (Own.chg (F := [(w.heap.size + 1 + e1.heap.size + e2.heap.size), (w.heap.size + 1 + e1.heap.size + e2.heap.size + 1 + e4.heap.size)]) HO4.out (by exact chA) (fun g hg => by have := Own.lt HO4.out hg; simp at this ⊢; omega))).2⟩
       refine M2.tree_e (k := 17) rfl ?_ ?_
       · go_wp2_with (fail)
         refine M2.TreeQ.mk ovA ?_; refine M2.tree_e1 (k := 11) rfl ?_; go_wp2_with ((go_at_call 88; (with_reducible refine (HO.out _ _ _ (by exact tabA hT) (by exact slA HS7.out)).mono ?_); rintro _ _ ⟨a4, c4, rfl, ⟨e4, rfl⟩, o4⟩; (try simp only [odr] at o4); have HO4 := hid o4; clear o4))
         refine M2.TreeQ.mk ovA ?_; repeat (refine M2.tree_q rfl rfl ?_; go_big_quiet_step (fail); with_reducible refine wpQuiet_nil ?_)
         refine M2.tree_e1 (k := 18) rfl ?_; go_wp2_with (fail)
         refine M2.TreeQ.mk ovA ?_; refine M2.tree_e1 (k := 19) rfl ?_; go_wp2_with (fail)
         refine M2.TreeQ.mk ovA ?_; repeat (refine M2.tree_q rfl rfl ?_; go_big_quiet_step (fail); with_reducible refine wpQuiet_nil ?_)
         refine M2.trd ?_; obtain ⟨q1, hq1⟩ : ∃ q, q = (w.heap.size + 1 + e1.heap.size + e2.heap.size) := ⟨_, rfl⟩; obtain ⟨q2, hq2⟩ : ∃ q, q = (w.heap.size + 1 + e1.heap.size + e2.heap.size + 1) := ⟨_, rfl⟩; first | rw [← hq2, ← hq1] | rw [← hq1, ← hq2]
         exact RgPost.mk q1 q2 a4 c4 rfl ⟨ovA, by rw [hq1]; exact (by exact blA), (Own.slice' bcs_len (Own.chg (F := [(w.heap.size + 1 + e1.heap.size + e2.heap.size), (w.heap.size + 1 + e1.heap.size + e2.heap.size + 1)]) HO4.out (by exact chA) (fun g hg => by have := Own.lt HO4.out hg; simp at this ⊢; omega))).2⟩
       exact M2.tree_no
     refine M2.tree_e (k := 17) rfl ?_ ?_
     · go_wp2_with (fail)
       refine M2.TreeQ.mk ovA ?_; refine M2.tree_e (k := 11) rfl ?_ ?_
       · go_wp2_with ((go_at_call 88; (with_reducible refine (HO.out _ _ _ (by exact tabA hT) (by exact slA HS7.out)).mono ?_); rintro _ _ ⟨a4, c4, rfl, ⟨e4, rfl⟩, o4⟩; (try simp only [odr] at o4); have HO4 := hid o4; clear o4))
         refine M2.TreeQ.mk ovA ?_; repeat (refine M2.tree_q rfl rfl ?_; go_big_quiet_step (fail); with_reducible refine wpQuiet_nil ?_)
         refine M2.tree_e1 (k := 16) rfl ?_; go_wp2_with (fail)
         refine M2.TreeQ.mk ovA ?_; refine M2.tree_e1 (k := 18) rfl ?_; go_wp2_with (fail)
         refine M2.TreeQ.mk ovA ?_; refine M2.tree_e1 (k := 19) rfl ?_; go_wp2_with (fail)
         refine M2.TreeQ.mk ovA ?_; repeat (refine M2.tree_q rfl rfl ?_; go_big_quiet_step (fail); with_reducible refine wpQuiet_nil ?_)
         refine M2.trd ?_; obtain ⟨q1, hq1⟩ : ∃ q, q = (w.heap.size + 1 + e1.heap.size + e2.heap.size + 1 + e4.heap.size) := ⟨_, rfl⟩; obtain ⟨q2, hq2⟩ : ∃ q, q = (w.heap.size + 1 + e1.heap.size + e2.heap.size) := ⟨_, rfl⟩; first | rw [← hq2, ← hq1] | rw [← hq1, ← hq2]
         exact RgPost.mk q1 q2 a4 c4 rfl ⟨ovA, by rw [hq1]; exact (by exact blA), (Own.slice' bcs_len (Own.chg (F := [(w.heap.size + 1 + e1.heap.size + e2.heap.size + 1 + e4.heap.size), (w.heap.size + 1 + e1.heap.size + e2.heap.size)]) HO4.out (by exact chA) (fun g hg => by have := Own.lt HO4.out hg; simp at this ⊢; omega))).2⟩
       refine M2.tree_e (k := 16) rfl ?_ ?_
       · go_wp2_with (fail)
         refine M2.TreeQ.mk ovA ?_; refine M2.tree_e1 (k := 11) rfl ?_; go_wp2_with ((go_at_call 88; (with_reducible refine (HO.out _ _ _ (by exact tabA hT) (by exact slA HS7.out)).mono ?_); rintro _ _ ⟨a4, c4, rfl, ⟨e4, rfl⟩, o4⟩; (try simp only [odr] at o4); have HO4 := hid o4; clear o4))
         refine M2.TreeQ.mk ovA ?_; repeat (refine M2.tree_q rfl rfl ?_; go_big_quiet_step (fail); with_reducible refine wpQuiet_nil ?_)
         refine M2.tree_e1 (k := 18) rfl ?_; go_wp2_with (fail)
         refine M2.TreeQ.mk ovA ?_; refine M2.tree_e1 (k := 19) rfl ?_; go_wp2_with (fail)
         refine M2.TreeQ.mk ovA ?_; repeat (refine M2.tree_q rfl rfl ?_; go_big_quiet_step (fail); with_reducible refine wpQuiet_nil ?_)
         refine M2.trd ?_; obtain ⟨q1, hq1⟩ : ∃ q, q = (w.heap.size + 1 + e1.heap.size + e2.heap.size + 1) := ⟨_, rfl⟩; obtain ⟨q2, hq2⟩ : ∃ q, q = (w.heap.size + 1 + e1.heap.size + e2.heap.size) := ⟨_, rfl⟩; first | rw [← hq2, ← hq1] | rw [← hq1, ← hq2]
         exact RgPost.mk q1 q2 a4 c4 rfl ⟨ovA, by rw [hq1]; exact (by exact blA), (Own.slice' bcs_len (Own.chg (F := [(w.heap.size + 1 + e1.heap.size + e2.heap.size + 1), (w.heap.size + 1 + e1.heap.size + e2.heap.size)]) HO4.out (by exact chA) (fun g hg => by have := Own.lt HO4.out hg; simp at this ⊢; omega))).2⟩
       exact M2.tree_no
     exact M2.tree_no
   refine M2.tree_e (k := 16) rfl ?_ ?_
   · go_wp2_with (fail)
     refine M2.TreeQ.mk ovA ?_; refine M2.tree_e (k := 2) rfl ?_ ?_
     · go_wp2_with ((go_at_call 25; (with_reducible refine (HC.out _ ovA).mono ?_); rintro _ _ ⟨⟨e2, rfl⟩, rfl⟩))
       refine M2.TreeQ.mk ovA ?_; repeat (refine M2.tree_q rfl rfl ?_; go_big_quiet_step (fail); with_reducible refine wpQuiet_nil ?_)
       refine M2.tree_e (k := 11) rfl ?_ ?_
       · go_wp2_with ((go_at_call 88; (with_reducible refine (HO.out _ _ _ (by exact tabA hT) (by exact slA HS7.out)).mono ?_); rintro _ _ ⟨a4, c4, rfl, ⟨e4, rfl⟩, o4⟩; (try simp only [odr] at o4); have HO4 := hid o4; clear o4))
         refine M2.TreeQ.mk ovA ?_; repeat (refine M2.tree_q rfl rfl ?_; go_big_quiet_step (fail); with_reducible refine wpQuiet_nil ?_)
         refine M2.tree_e1 (k := 17) rfl ?_; go_wp2_with (fail)
         refine M2.TreeQ.mk ovA ?_; refine M2.tree_e1 (k := 18) rfl ?_; go_wp2_with (fail)
         refine M2.TreeQ.mk ovA ?_; refine M2.tree_e1 (k := 19) rfl ?_; go_wp2_with (fail)
         refine M2.TreeQ.mk ovA ?_; repeat (refine M2.tree_q rfl rfl ?_; go_big_quiet_step (fail); with_reducible refine wpQuiet_nil ?_)
         refine M2.trd ?_; obtain ⟨q1, hq1⟩ : ∃ q, q = (w.heap.size + 1 + e1.heap.size) := ⟨_, rfl⟩; obtain ⟨q2, hq2⟩ : ∃ q, q = (w.heap.size + 1 + e1.heap.size + 1 + e2.heap.size + e4.heap.size) := ⟨_, rfl⟩; first | rw [← hq2, ← hq1] | rw [← hq1, ← hq2]
         exact RgPost.mk q1 q2 a4 c4 rfl ⟨ovA, by rw [hq1]; exact (by exact blA), (Own.slice' bcs_len (Own.chg (F := [(w.heap.size + 1 + e1.heap.size), (w.heap.size + 1 + e1.heap.size + 1 + e2.heap.size + e4.heap.size)]) HO4.out (by exact chA) (fun g hg => by have := Own.lt HO4.out hg; simp at this ⊢; omega))).2⟩
       refine M2.tree_e (k := 17) rfl ?_ ?_
       · go_wp2_with (fail)
         refine M2.TreeQ.mk ovA ?_; refine M2.tree_e1 (k := 11) rfl ?_; go_wp2_with ((go_at_call 88; (with_reducible refine (HO.out _ _ _ (by exact tabA hT) (by exact slA HS7.out)).mono ?_); rintro _ _ ⟨a4, c4, rfl, ⟨e4, rfl⟩, o4⟩; (try simp only [odr] at o4); have HO4 := hid o4; clear o4))
         refine M2.TreeQ.mk ovA ?_; repeat (refine M2.tree_q rfl rfl ?_; go_big_quiet_step (fail); with_reducible refine wpQuiet_nil ?_)
         refine M2.tree_e1 (k := 18) rfl ?_; go_wp2_with (fail)
         refine M2.TreeQ.mk ovA ?_; refine M2.tree_e1 (k := 19) rfl ?_; go_wp2_with (fail)
         refine M2.TreeQ.mk ovA ?_; repeat (refine M2.tree_q rfl rfl ?_; go_big_quiet_step (fail); with_reducible refine wpQuiet_nil ?_)
         refine M2.trd ?_; obtain ⟨q1, hq1⟩ : ∃ q, q = (w.heap.size + 1 + e1.heap.size) := ⟨_, rfl⟩; obtain ⟨q2, hq2⟩ : ∃ q, q = (w.heap.size + 1 + e1.heap.size + 1 + e2.heap.size) := ⟨_, rfl⟩; first | rw [← hq2, ← hq1] | rw [← hq1, ← hq2]
         exact RgPost.mk q1 q2 a4 c4 rfl ⟨ovA, by rw [hq1]; exact (by exact blA), (Own.slice' bcs_len (Own.chg (F := [(w.heap.size + 1 + e1.heap.size), (w.heap.size + 1 + e1.heap.size + 1 + e2.heap.size)]) HO4.out (by exact chA) (fun g hg => by have := Own.lt HO4.out hg; simp at this ⊢; omega))).2⟩
       exact M2.tree_no
     refine M2.tree_e (k := 17) rfl ?_ ?_
     · go_wp2_with (fail)
       refine M2.TreeQ.mk ovA ?_; refine M2.tree_e1 (k := 2) rfl ?_; go_wp2_with ((go_at_call 25; (with_reducible refine (HC.out _ ovA).mono ?_); rintro _ _ ⟨⟨e2, rfl⟩, rfl⟩))
       refine M2.TreeQ.mk ovA ?_; repeat (refine M2.tree_q rfl rfl ?_; go_big_quiet_step (fail); with_reducible refine wpQuiet_nil ?_)
       refine M2.tree_e1 (k := 11) rfl ?_; go_wp2_with ((go_at_call 88; (with_reducible refine (HO.out _ _ _ (by exact tabA hT) (by exact slA HS7.out)).mono ?_); rintro _ _ ⟨a4, c4, rfl, ⟨e4, rfl⟩, o4⟩; (try simp only [odr] at o4); have HO4 := hid o4; clear o4))
       refine M2.TreeQ.mk ovA ?_; repeat (refine M2.tree_q rfl rfl ?_; go_big_quiet_step (fail); with_reducible refine wpQuiet_nil ?_)
       refine M2.tree_e1 (k := 18) rfl ?_; go_wp2_with (fail)
       refine M2.TreeQ.mk ovA ?_; refine M2.tree_e1 (k := 19) rfl ?_; go_wp2_with (fail)
       refine M2.TreeQ.mk ovA ?_; repeat (refine M2.tree_q rfl rfl ?_; go_big_quiet_step (fail); with_reducible refine wpQuiet_nil ?_)
       refine M2.trd ?_; obtain ⟨q1, hq1⟩ : ∃ q, q = (w.heap.size + 1 + e1.heap.size) := ⟨_, rfl⟩; obtain ⟨q2, hq2⟩ : ∃ q, q = (w.heap.size + 1 + e1.heap.size + 1) := ⟨_, rfl⟩; first | rw [← hq2, ← hq1] | rw [← hq1, ← hq2]
       exact RgPost.mk q1 q2 a4 c4 rfl ⟨ovA, by rw [hq1]; exact (by exact blA), (Own.slice' bcs_len (Own.chg (F := [(w.heap.size + 1 + e1.heap.size), (w.heap.size + 1 + e1.heap.size + 1)]) HO4.out (by exact chA) (fun g hg => by have := Own.lt HO4.out hg; simp at this ⊢; omega))).2⟩
     exact M2.tree_no
   refine M2.tree_e (k := 17) rfl ?_ ?_
   · go_wp2_with (fail)
     refine M2.TreeQ.mk ovA ?_; refine M2.tree_e (k := 2) rfl ?_ ?_
     · go_wp2_with ((go_at_call 25; (with_reducible refine (HC.out _ ovA).mono ?_); rintro _ _ ⟨⟨e2, rfl⟩, rfl⟩))
       refine M2.TreeQ.mk ovA ?_; repeat (refine M2.tree_q rfl rfl ?_; go_big_quiet_step (fail); with_reducible refine wpQuiet_nil ?_)
       refine M2.tree_e (k := 11) rfl ?_ ?_
       · go_wp2_with ((go_at_call 88; (with_reducible refine (HO.out _ _ _ (by exact tabA hT) (by exact slA HS7.out)).mono ?_); rintro _ _ ⟨a4, c4, rfl, ⟨e4, rfl⟩, o4⟩; (try simp only [odr] at o4); have HO4 := hid o4; clear o4))
         refine M2.TreeQ.mk ovA ?_; repeat (refine M2.tree_q rfl rfl ?_; go_big_quiet_step (fail); with_reducible refine wpQuiet_nil ?_)
         refine M2.tree_e1 (k := 16) rfl ?_; go_wp2_with (fail)
         refine M2.TreeQ.mk ovA ?_; refine M2.tree_e1 (k := 18) rfl ?_; go_wp2_with (fail)
         refine M2.TreeQ.mk ovA ?_; refine M2.tree_e1 (k := 19) rfl ?_; go_wp2_with (fail)
         refine M2.TreeQ.mk ovA ?_; repeat (refine M2.tree_q rfl rfl ?_; go_big_quiet_step (fail); with_reducible refine wpQuiet_nil ?_)
         refine M2.trd ?_; obtain ⟨q1, hq1⟩ : ∃ q, q = (w.heap.size + 1 + e1.heap.size + 1 + e2.heap.size + e4.heap.size) := ⟨_, rfl⟩; obtain ⟨q2, hq2⟩ : ∃ q, q = (w.heap.size + 1 + e1.heap.size) := ⟨_, rfl⟩; first | rw [← hq2, ← hq1] | rw [← hq1, ← hq2]
         exact RgPost.mk q1 q2 a4 c4 rfl ⟨ovA, by rw [hq1]; exact (by exact blA), (Own.slice' bcs_len (Own.chg (F := [(w.heap.size + 1 + e1.heap.size + 1 + e2.heap.size + e4.heap.size), (w.heap.size + 1 + e1.heap.size)]) HO4.out (by exact chA) (fun g hg => by have := Own.lt HO4.out hg; simp at this ⊢; omega))).2⟩
       refine M2.tree_e (k := 16) rfl ?_ ?_
       · go_wp2_with (fail)
         refine M2.TreeQ.mk ovA ?_; refine M2.tree_e1 (k := 11) rfl ?_; go_wp2_with ((go_at_call 88; (with_reducible refine (HO.out _ _ _ (by exact tabA hT) (by exact slA HS7.out)).mono ?_); rintro _ _ ⟨a4, c4, rfl, ⟨e4, rfl⟩, o4⟩; (try simp only [odr] at o4); have HO4 := hid o4; clear o4))
         refine M2.TreeQ.mk ovA ?_; repeat (refine M2.tree_q rfl rfl ?_; go_big_quiet_step (fail); with_reducible refine wpQuiet_nil ?_)
         refine M2.tree_e1 (k := 18) rfl ?_; go_wp2_with (fail)
         refine M2.TreeQ.mk ovA ?_; refine M2.tree_e1 (k := 19) rfl ?_; go_wp2_with (fail)
         refine M2.TreeQ.mk ovA ?_; repeat (refine M2.tree_q rfl rfl ?_; go_big_quiet_step (fail); with_reducible refine wpQuiet_nil ?_)
         refine M2.trd ?_; obtain ⟨q1, hq1⟩ : ∃ q, q = (w.heap.size + 1 + e1.heap.size + 1 + e2.heap.size) := ⟨_, rfl⟩; obtain ⟨q2, hq2⟩ : ∃ q, q = (w.heap.size + 1 + e1.heap.size) := ⟨_, rfl⟩; first | rw [← hq2, ← hq1] | rw [← hq1, ← hq2]
         exact RgPost.mk q1 q2 a4 c4 rfl ⟨ovA, by rw [hq1]; exact (by exact blA), (Own.slice' bcs_len (Own.chg (F := [(w.heap.size + 1 + e1.heap.size + 1 + e2.heap.size), (w.heap.size + 1 + e1.heap.size)]) HO4.out (by exact chA) (fun g hg => by have := Own.lt HO4.out hg; simp at this ⊢; omega))).2⟩
       exact M2.tree_no
     refine M2.tree_e (k := 16) rfl ?_ ?_
     · go_wp2_with (fail)
       refine M2.TreeQ.mk ovA ?_; refine M2.tree_e1 (k := 2) rfl ?_; go_wp2_with ((go_at_call 25; (with_reducible refine (HC.out _ ovA).mono ?_); rintro _ _ ⟨⟨e2, rfl⟩, rfl⟩))
       refine M2.TreeQ.mk ovA ?_; repeat (refine M2.tree_q rfl rfl ?_; go_big_quiet_step (fail); with_reducible refine wpQuiet_nil ?_)
       refine M2.tree_e1 (k := 11) rfl ?_; go_wp2_with ((go_at_call 88; (with_reducible refine (HO.out _ _ _ (by exact tabA hT) (by exact slA HS7.out)).mono ?_); rintro _ _ ⟨a4, c4, rfl, ⟨e4, rfl⟩, o4⟩; (try simp only [odr] at o4); have HO4 := hid o4; clear o4))
       refine M2.TreeQ.mk ovA ?_; repeat (refine M2.tree_q rfl rfl ?_; go_big_quiet_step (fail); with_reducible refine wpQuiet_nil ?_)
       refine M2.tree_e1 (k := 18) rfl ?_; go_wp2_with (fail)
       refine M2.TreeQ.mk ovA ?_; refine M2.tree_e1 (k := 19) rfl ?_; go_wp2_with (fail)
       refine M2.TreeQ.mk ovA ?_; repeat (refine M2.tree_q rfl rfl ?_; go_big_quiet_step (fail); with_reducible refine wpQuiet_nil ?_)
       refine M2.trd ?_; obtain ⟨q1, hq1⟩ : ∃ q, q = (w.heap.size + 1 + e1.heap.size + 1) := ⟨_, rfl⟩; obtain ⟨q2, hq2⟩ : ∃ q, q = (w.heap.size + 1 + e1.heap.size) := ⟨_, rfl⟩; first | rw [← hq2, ← hq1] | rw [← hq1, ← hq2]
       exact RgPost.mk q1 q2 a4 c4 rfl ⟨ovA, by rw [hq1]; exact (by exact blA), (Own.slice' bcs_len (Own.chg (F := [(w.heap.size + 1 + e1.heap.size + 1), (w.heap.size + 1 + e1.heap.size)]) HO4.out (by exact chA) (fun g hg => by have := Own.lt HO4.out hg; simp at this ⊢; omega))).2⟩
     exact M2.tree_no
   exact M2.tree_no
  case h2 =>
   intro p5 q2 a4 c4 W5 hv; have O5 := hid hv.1; have B5 := hid hv.2.1; have S5 := hid hv.2.2; clear hv; have b50 := B5.out.cell 0 rfl; have b51 := B5.out.cell 1 rfl; have lb5 := B5.out.lt; go_wp2_with (go_at_call 40; (with_reducible refine (HS.out _ _ _ (by exact slA S5.out)).mono ?_); rintro _ _ ⟨⟨e5, rfl⟩, rfl⟩)
   go_ret2
   obtain ⟨z5, rfl⟩ := O5.out; exact ⟨ovA, rfl⟩
end
section
open Go.RowKit
attribute [local go_sem] odr cdr
attribute [local go_sem high] place_eql place_neq
def RCutPost (w : World) (f : Fr) (to : Pl) (en : Ending) (w' : World) : Prop :=
 ∃ a cap, en = .returned (.tuple #[f.v a cap, to.v, .int .i64 0]) ∧ (∃ e, w' = over w e) ∧ OwnB w.heap.size w' (.slice a (pack f.bits).length cap) (pack f.bits)
theorem cut_bits (c : List Sm) {pb N : Nat} (h : pb ≤ blen c N) : ∃ m, (bitsC En.zero (c.take N)).length = pb + m ∧ ((bitsC En.zero (c.take N)).drop pb).take m = ((bitsC En.zero c).drop pb).take (blen c N - pb) := by
 have hl : (bitsC En.zero (c.take N)).length = blen c N := rfl; refine ⟨blen c N - pb, by omega, ?_⟩; rw [bits_take, List.drop_take, List.take_take, Nat.min_self]
theorem rcut_yes {base : Nat} {w : World} {p sz : Nat} {v : Value} {rs : List Rr} {R : List (Nat × Sr)} (h : RbAt base w p sz v rs R) (hT : TabW w) (id : Nat) (hlen2 : rs.length ≤ 1000000) {s : Sr} (hs : getS R id = s) (hok : SrOk s) (hcl : s.cl.length ≤ 100000) {pc pb pn : Nat} {c : List Sm} {cl : Bool} (hh : s.has ⟨pc, pb, pn⟩ c cl) (hne0 : (⟨pc, pb, pn⟩ : Pl) ≠ s.fin) (most : Int) (hmo : -9223372036854775808 ≤ most ∧ most ≤ 9223372036854775807) :
    Calls Tryz.prog 60 #[.pointer (some ⟨p, 0, none⟩), .int .u32 (id : Nat), .agg #[.int .u32 (pc : Nat), .int .u32 (pb : Nat), .int .u32 (pn : Nat)], .int .i64 most] w (RCutPost w (cutF id c cl ⟨pc, pb, pn⟩ most) (cutPl c cl ⟨pc, pb, pn⟩ most)) := by
  have hlt : pn < c.length := has_lt hh hne0; have ht : rthere R id := rthere_ne h.sort hs (has_there hh.1 (fun e => by rw [e] at hlt; simp at hlt)); have HSum := hid (fun W (hW : ∃ e, W = over w e) => rsum_yes (RbAt.ov h hW) (TabW.ov hT hW) id hlen2 hs hok hcl ht hh); have HEnd := hid (fun W (hW : ∃ e, W = over w e) => rend_any (RbAt.ov h hW) (TabW.ov hT hW) id hlen2 hs hok hcl); obtain ⟨ca, cc, ck, hck, hcs, HC⟩ := rck_there h id hlen2 hs ht; have HC := hid HC; obtain ⟨ha, h1, h2, h3⟩ := hh; simp only at ha h1 h2 h3; obtain ⟨hok2, hpc⟩ := at_ok hok ha; have hlc := hok2.len; have hpb := blen_le hok2 pn; rw [h3] at hpb; obtain ⟨⟨fc, fb, fn⟩, hfin⟩ : ∃ f, s.fin = f := ⟨_, rfl⟩; rw [hfin] at hne0 HEnd; simp only at HEnd; have hne : ¬ (pc = fc ∧ pb = fb ∧ pn = fn) := fun hx => hne0 (by rw [hx.1, hx.2.1, hx.2.2]); have hne2 : ((pc : Int) == fc && (pb : Int) == fb && (pn : Int) == fn) = false := by rw [← Bool.not_eq_true, Bool.and_eq_true, Bool.and_eq_true, beq_iff_eq, beq_iff_eq, beq_iff_eq]; omega
  have hne3 : (pc == fc && pb == fb && pn == fn) = false := by rw [← Bool.not_eq_true, Bool.and_eq_true, Bool.and_eq_true, beq_iff_eq, beq_iff_eq, beq_iff_eq]; omega
  obtain ⟨hk, hl, hl9⟩ := ck_at hcs ha; have hrow := hck.rows _ (List.getElem_mem hk); rw [hl] at hrow; have HPl := hid (fun (n : Nat) (hn : n ≤ c.length) W (hW : ∃ e, W = over w e) => rplace_any hk (by rw [hl]; exact hok2) (n := n) (by rw [hl]; exact hn) (by omega) ca cc W (TabW.ov hT hW) (Sl.ov hck.row hW) (fun x hx => Sl.ov (hck.rows x hx) hW)); rw [hl] at HPl; obtain ⟨cb, co, rfl, hcb, q0, q1⟩ := SlC.at_ hck.row hk; rw [hl] at q0; rw [hl9] at q1; obtain ⟨ra, hra⟩ : (∃ z, (ck[pc]'hk).a = z) := ⟨_, rfl⟩; obtain ⟨rc, hrc⟩ : (∃ z, (ck[pc]'hk).c = z) := ⟨_, rfl⟩; rw [hra, hrc] at hrow q0; have HRow := hid (fun W (hW : ∃ e, W = over w e) => Sl.ov hrow hW); obtain ⟨N, hN⟩ : ∃ N, cutN c ⟨pc, pb, pn⟩ most = N := ⟨_, rfl⟩; have hN1 := cutN_le (c := c) (p := ⟨pc, pb, pn⟩) most hlt; rw [hN] at hN1; simp only at hN1; obtain ⟨sm, hsm⟩ : ∃ z, sumP c pn = z := ⟨_, rfl⟩; rw [hsm] at HSum; have HN := hid hN; have HSM := hid hsm; have HOK := hid hok2; have HPB := hid h3; have hpc2 : pc ≤ 100000 := by omega
  have hd : decide (pc < ck.length) = true := decide_eq_true hk; have hTw := hT; clear h hs hok hck hcs hl hl9 hrow hra hrc ht ha h2 h1 h3 hne0 hne hfin hok2 hN hsm hpc; have hfd : ∀ (x y z : Int) (w : World), (Instr.field 46 (.agg #[.int .u32 x, .int .u32 y, .int .u32 z]) 1).run Tryz.prog w = .ok (.int .u32 y) w := fun _ _ _ _ => by kernel_rfl
  go_enter Tryz.func60, Tryz.ntmps60; go_wp2_with (go_at_call 85; (with_reducible refine (HSum.out _ ovA).mono ?_); rintro _ _ ⟨⟨e1, rfl⟩, rfl⟩)
  refine M2.wrm [3] 5 (by kernel_rfl) (by kernel_rfl) (by decide) ?_; simp only [M2.td]; with_reducible refine M2.mlq 3 (by kernel_rfl) ?_
  simp only [M2.td]; repeat (go_big_quiet_step (fail))
  with_reducible refine wpQuiet_nil ?_
  with_reducible refine M2.mle (by decide) ?_
  go_wp2_with ((go_at_call 86; (with_reducible refine (HEnd.out _ ovA).mono ?_); rintro _ _ ⟨⟨e2, rfl⟩, rfl⟩))
  refine M2.MixQ.mk ovA ?_; with_reducible refine M2.mlq 1 (by kernel_rfl) ?_
  simp only [M2.td]; repeat (go_big_quiet_step (fail))
  with_reducible refine wpQuiet_nil ?_
  with_reducible refine M2.mln ?_
  with_reducible refine M2.mln ?_
  go_wp2_with (go_at_call 25; (with_reducible refine (HC.out _ ovA).mono ?_); rintro _ _ ⟨⟨e3, rfl⟩, rfl⟩)
  refine gen_w ?_; intro W4 hW4; obtain ⟨p14, hp14⟩ : ∃ p, p = w.heap.size + 1 + 1 + 1 + e1.heap.size + e2.heap.size + e3.heap.size := ⟨_, rfl⟩; have O4 : Hid (∃ e, W4 = over w e) := hid (by rw [hW4]; exact ovA); have E6 : Hid (Blk W4 w.heap.size [.int .u32 (pc : Nat), .int .u32 (pb : Nat), .int .u32 (pn : Nat)] 46) := hid (by rw [hW4]; exact (by exact blA)); have C8 : Hid (Blk W4 (w.heap.size + 1) [.int .u8 0, .int .u32 0, .int .u32 0, .int .u32 0, .int .u32 0, .int .u32 0, .int .u32 0, .bool false, .int .u64 0, .slice none 0 0, .int .i64 0] 51) := hid (by rw [hW4]; exact (by exact blA)); have C9 : Hid (Blk W4 (w.heap.size + 1 + 1) [.int .u32 0, .int .u32 0, .int .u32 0] 46) := hid (by rw [hW4]; exact (by exact blA)); have B14 : Hid (Blk W4 p14 [.slice ra c.length rc, .bool cl] 74) := hid (by rw [hW4, hp14]; exact (by exact blA)); have h14 : w.heap.size + 1 + 1 < p14 := by omega
  rw [← hp14]; clear hW4 hp14 q0 q1; have HT4 := hid (TabW.ov hTw O4.out); have b60 := E6.out.cell 0 rfl; have b61 := E6.out.cell 1 rfl; have b62 := E6.out.cell 2 rfl; have lb6 := E6.out.lt; have b140 := B14.out.cell 0 rfl; have b141 := B14.out.cell 1 rfl; have lb14 := B14.out.lt
  go_loopw [15] (fun i wr => ∃ (f n : Nat), n ≤ c.length ∧ c.length ≤ n + f ∧ pn + 1 ≤ n ∧ cutTo c pb most f n = N ∧ i = .int .i64 (n : Nat) ∧ Ov W4 wr) (fun i _ => c.length - (intOf i).toNat)
  case atStart => exact ⟨c.length, pn + 1, by omega, by omega, Nat.le_refl _, HN.out, by go_num, ovA⟩
  case round =>
   obtain ⟨f, n, hn1, hn2, hn3, hn4, rfl, ⟨e0, rfl⟩⟩ := hrel; by_cases hnl : n < c.length
   · have HPn := hid (HPl.out (n + 1) hnl); have hbn := blen_le HOK.out (n + 1); obtain ⟨f', rfl⟩ : ∃ f', f = f' + 1 := ⟨f - 1, by omega⟩; have hstp : cutTo c pb most (f' + 1) n = if n < c.length ∧ (blen c (n + 1) : Int) - pb ≤ most then cutTo c pb most f' (n + 1) else n := rfl
     rw [hstp] at hn4; obtain ⟨bn, hbn9⟩ : ∃ z, blen c (n + 1) = z := ⟨_, rfl⟩; rw [hbn9] at HPn hbn hn4; rw [show ((n + 1 : Nat) : Int) = (n : Int) + 1 from rfl] at HPn; have hd1 : decide (n < c.length) = true := decide_eq_true hnl; by_cases hm : (bn : Int) - pb ≤ most
     · rw [if_pos ⟨hnl, hm⟩] at hn4; have hd2 : decide ((bn : Int) - (pb : Int) ≤ most) = true := decide_eq_true hm; have H4 := hid hn4; clear hn4 hstp hbn9 hm; go_wp2; refine M2.wrm [12] 22 (by kernel_rfl) (by kernel_rfl) (by decide) ?_; simp only [M2.td]; with_reducible refine M2.mlq 12 (by kernel_rfl) ?_
       simp only [M2.td]; repeat (go_big_quiet_step (fail))
       with_reducible refine wpQuiet_nil ?_
       with_reducible refine M2.mle (by decide) ?_
       go_wp2_with ((go_at_call 87; (with_reducible refine (HPn.out _ (ovB O4.out)).mono ?_); rintro _ _ ⟨⟨e4, rfl⟩, rfl⟩))
       refine M2.MixQ.mk ovA ?_; with_reducible refine M2.mlq 9 (by kernel_rfl) ?_
       simp only [M2.td]; repeat (go_big_quiet_step (fail))
       with_reducible refine wpQuiet_nil ?_
       with_reducible refine M2.mln ?_
       with_reducible refine M2.mln ?_
       go_wp2; go_roundw
       case rel => exact ⟨f', n + 1, by omega, by omega, by omega, H4.out, by go_num, ovA⟩
       case measure => (simp [intOf]; try omega)
     · rw [if_neg (fun hh => hm hh.2)] at hn4; have hd2 : decide ((bn : Int) - (pb : Int) ≤ most) = false := decide_eq_false hm; subst hn4; clear hstp hbn9 hm; go_wp2; refine M2.wrm [12] 22 (by kernel_rfl) (by kernel_rfl) (by decide) ?_; simp only [M2.td]; with_reducible refine M2.mlq 12 (by kernel_rfl) ?_
       simp only [M2.td]; repeat (go_big_quiet_step (fail))
       with_reducible refine wpQuiet_nil ?_
       with_reducible refine M2.mle (by decide) ?_
       go_wp2_with ((go_at_call 87; (with_reducible refine (HPn.out _ (ovB O4.out)).mono ?_); rintro _ _ ⟨⟨e4, rfl⟩, rfl⟩))
       refine M2.MixQ.mk ovA ?_; with_reducible refine M2.mlq 9 (by kernel_rfl) ?_
       simp only [M2.td]; repeat (go_big_quiet_step (fail))
       with_reducible refine wpQuiet_nil ?_
       with_reducible refine M2.mln ?_
       with_reducible refine M2.mln ?_
       have HPN := HPl.out (n) (by omega); have hbN := blen_le HOK.out (n); have hpbN : pb ≤ blen c (n) := by rw [← HPB.out]; exact blen_mono c (by omega)
       obtain ⟨m, hm1, hm2⟩ := cut_bits c hpbN; obtain ⟨n0, n1, n2, n3, n4, n5, n6, HO⟩ := rcof_n HOK.out (n := (n)) (by omega); have HO := hid HO.of2; obtain ⟨BN, hBN⟩ : ∃ z, blen c (n) = z := ⟨_, rfl⟩; obtain ⟨LN, hLN⟩ : ∃ z, bitsC En.zero (c.take (n)) = z := ⟨_, rfl⟩; have hLB : LN.length = BN := by rw [← hLN, ← hBN]; rfl
       rw [hLN] at hm1 hm2 HO; have HX : Hid (∀ a cap W, SlB W a cap (pack LN) → Calls Tryz.prog 89 #[bv a (pack LN).length cap LN.length, .int .i64 (pb : Nat), .int .i64 (LN.length : Nat)] W (RbOwn W ((LN.drop pb).take m))) := hid (fun a cap W hW => by
        have h := rcut_own LN (by omega) pb m (by omega) a cap W hW; rw [← hm1] at h; exact h)
       obtain ⟨LX, hLX⟩ : ∃ z, (LN.drop pb).take m = z := ⟨_, rfl⟩; rw [hLX] at HX hm2; rw [hLB] at HX; rw [hBN] at HPN hbN hm2; have HFr : Hid (cutF id c cl ⟨pc, pb, pn⟩ most = ⟨id, ⟨pc, pb, pn⟩, (n), cl && decide ((n) = c.length), sm, LX⟩) := hid (by unfold cutF; rw [HN.out, HSM.out]; simp only; rw [hBN, ← hm2]); have HTo : Hid (cutPl c cl ⟨pc, pb, pn⟩ most = if cl = true ∧ (n) = c.length then ⟨pc + 1, 0, 0⟩ else ⟨pc, BN, (n)⟩) := hid (by unfold cutPl; rw [HN.out]; simp only; rw [hBN]); obtain ⟨ra2, rc2, q7, s7⟩ := run_take sample_elem (HRow.out _ ovA) (l := (n)) (by omega); rw [List.length_take, Nat.min_eq_left (show (n) ≤ c.length by omega)] at q7; have HS7 := hid (Sl.ov s7 O4.out); clear hm1 hm2 hBN hLN hLX hpbN s7; cases cl with
       | false =>
        have hFF := HFr.out; have hTT := HTo.out; simp only [Bool.false_and] at hFF; rw [if_neg (by simp)] at hTT; have HF9 := hid hFF; have HT9 := hid hTT; clear hFF hTT
        go_wp2_with (first
          | (go_at_call 87; (with_reducible refine (HPN _ (ovB O4.out)).mono ?_); rintro _ _ ⟨⟨e5, rfl⟩, rfl⟩)
          | (go_at_call 88; (with_reducible refine (HO.out _ _ _ (by exact tabA HT4.out) (by exact slA HS7.out)).mono ?_); rintro _ _ ⟨a6, c6, rfl, ⟨e6, rfl⟩, o6⟩; (try simp only [odr] at o6); have HS6 := hid (Own.slice' bcs_len o6).2; clear o6)
          | (go_at_call 89; (with_reducible refine (HX.out _ _ _ (by exact slA HS6.out)).mono ?_); rintro _ _ ⟨a9, c9, rfl, ⟨e9, rfl⟩, o9⟩; (try simp only [odr] at o9); have HS9 := hid o9; clear o9))
        refine gen_w ?_; intro W8 hW8; obtain ⟨p16, hp16⟩ : ∃ p, p = W4.heap.size + e0.heap.size + e4.heap.size + e5.heap.size := ⟨_, rfl⟩; obtain ⟨p22, hp22⟩ : ∃ p, p = W4.heap.size + e0.heap.size + e4.heap.size + e5.heap.size + 1 + e6.heap.size + 1 + 1 + e9.heap.size + 1 := ⟨_, rfl⟩; have O84 : Hid (∃ e, W8 = over W4 e) := hid (by rw [hW8]; exact ovA); have O8 : Hid (∃ e, W8 = over w e) := hid (over_trans O4.out O84.out); have hw4 := C9.out.lt; have P16 : Hid (Blk W8 p16 [.int .u32 (pc : Nat), .int .u32 (BN : Nat), .int .u32 (n : Nat)] 46) := hid (by rw [hW8, hp16]; first | exact (by exact blA) | exact (by exact bkA)); have P22 : Hid (Blk W8 p22 [.int .u8 0, .int .u32 0, .int .u32 (id : Nat), .int .u32 (pc : Nat), .int .u32 (pb : Nat), .int .u32 (pn : Nat), .int .u32 ((n) : Nat), .bool false, .int .u64 (sm : Nat), .slice a9 (pack LX).length c9, .int .i64 (LX.length : Nat)] 51) := hid (by rw [hW8, hp22]; first | exact (by exact blA) | exact (by exact bkA)); have N8 : Hid (OwnB W4.heap.size W8 (.slice a9 (pack LX).length c9) (pack LX)) := hid (by have h9 := Own.mono (base' := W4.heap.size) HS9.out (by simp; omega); rw [hW8]; exact (by exact ownA h9)); rw [← hp22, ← hp16]; have hp1 : W4.heap.size ≤ p16 := by omega
        have hp2 : W4.heap.size ≤ p22 := by omega
        clear hW8 hp16 hp22 HS9 b60 b61 b62 lb6 b140 b141 lb14; have C8 : Hid (Blk W8 (w.heap.size + 1) [.int .u8 0, .int .u32 0, .int .u32 0, .int .u32 0, .int .u32 0, .int .u32 0, .int .u32 0, .bool false, .int .u64 0, .slice none 0 0, .int .i64 0] 51) := hid (by obtain ⟨e, he⟩ := O84.out; rw [he]; exact Blk.on C8.out e); have C9 : Hid (Blk W8 (w.heap.size + 1 + 1) [.int .u32 0, .int .u32 0, .int .u32 0] 46) := hid (by obtain ⟨e, he⟩ := O84.out; rw [he]; exact Blk.on C9.out e); have x0 := P22.out.cell 0 rfl; have x1 := P22.out.cell 1 rfl; have x2 := P22.out.cell 2 rfl; have x3 := P22.out.cell 3 rfl; have x4 := P22.out.cell 4 rfl; have x5 := P22.out.cell 5 rfl; have x6 := P22.out.cell 6 rfl; have x7 := P22.out.cell 7 rfl; have x8 := P22.out.cell 8 rfl; have x9 := P22.out.cell 9 rfl; have xa := P22.out.cell 10 rfl; have xl := P22.out.lt; have y0 := P16.out.cell 0 rfl; have y1 := P16.out.cell 1 rfl; have y2 := P16.out.cell 2 rfl; have yl := P16.out.lt; have f8 : ∀ j, W8.frozen? ⟨w.heap.size + 1, j, none⟩ = false := fun j => C8.out.free j; have f9 : ∀ j, W8.frozen? ⟨w.heap.size + 1 + 1, j, none⟩ = false := fun j => C9.out.free j; have c80 := C8.out.cell 0 rfl; have c81 := C8.out.cell 1 rfl; have c82 := C8.out.cell 2 rfl; have c83 := C8.out.cell 3 rfl; have c84 := C8.out.cell 4 rfl; have c85 := C8.out.cell 5 rfl; have c86 := C8.out.cell 6 rfl; have c87 := C8.out.cell 7 rfl; have c88 := C8.out.cell 8 rfl; have c89 := C8.out.cell 9 rfl; have c8a := C8.out.cell 10 rfl; have c90_ := C9.out.cell 0 rfl; have c91_ := C9.out.cell 1 rfl; have c92_ := C9.out.cell 2 rfl; have l8 := C8.out.lt; have l9 := C9.out.lt; obtain ⟨F, hF⟩ : ∃ F, F = [w.heap.size + 1, w.heap.size + 1 + 1] := ⟨_, rfl⟩; have n1 : w.heap.size + 1 ∈ F := by rw [hF]; simp
        have n2 : w.heap.size + 1 + 1 ∈ F := by rw [hF]; simp
        have n3 : p22 ∉ F := by rw [hF]; simp; omega
        have n4 : p16 ∉ F := by rw [hF]; simp; omega
        clear hF; go_wp2; refine M2.wrz (fun w' => ∃ m : Mut, w' = chg F _ m) [2, 3] 5 (by kernel_rfl) (by kernel_rfl) (by decide) (chg_of (Chg.refl _ _)) ?_; simp only [M2.td]; with_reducible refine M2.mlq 2 (by kernel_rfl) ?_
        simp only [M2.td]; repeat (go_big_quiet_step (fail))
        with_reducible refine wpQuiet_nil ?_
        with_reducible refine M2.mle (by decide) ?_
        go_wp2_with (fail)
        refine M2.MixQ.mk (chg_of (by exact chA)) ?_; with_reducible refine M2.mle (by decide) ?_
        go_wp2_with (fail)
        refine M2.MixQ.mk (chg_of (by exact chA)) ?_; with_reducible refine M2.mlq 1 (by kernel_rfl) ?_
        simp only [M2.td]; repeat (go_big_quiet_step (fail))
        with_reducible refine wpQuiet_nil ?_
        with_reducible refine M2.mln ?_
        with_reducible refine M2.mln ?_
        go_wp2; refine gen_w ?_; intro W9 hW9; have C89 : Hid (Chg [w.heap.size + 1, w.heap.size + 1 + 1] W8 W9) := hid (by rw [hW9]; exact (by exact chA)); have D8 : Hid (Blk W9 (w.heap.size + 1) [.int .u8 0, .int .u32 0, .int .u32 (id : Nat), .int .u32 (pc : Nat), .int .u32 (pb : Nat), .int .u32 (pn : Nat), .int .u32 ((n) : Nat), .bool false, .int .u64 (sm : Nat), .slice a9 (pack LX).length c9, .int .i64 (LX.length : Nat)] 51) := hid (by rw [hW9]; refine Blk.drew ?_; exact Blk.off (Blk.full C8.out [.int .u8 0, .int .u32 0, .int .u32 (id : Nat), .int .u32 (pc : Nat), .int .u32 (pb : Nat), .int .u32 (pn : Nat), .int .u32 ((n) : Nat), .bool false, .int .u64 (sm : Nat), .slice a9 (pack LX).length c9, .int .i64 (LX.length : Nat)] rfl) (by omega) [.int .u32 (pc : Nat), .int .u32 (BN : Nat), .int .u32 (n : Nat)] 0); have D9 : Hid (Blk W9 (w.heap.size + 1 + 1) [.int .u32 (pc : Nat), .int .u32 (BN : Nat), .int .u32 (n : Nat)] 46) := hid (by rw [hW9]; refine Blk.drew ?_; exact Blk.full (Blk.off C9.out (by omega) [.int .u8 0, .int .u32 0, .int .u32 (id : Nat), .int .u32 (pc : Nat), .int .u32 (pb : Nat), .int .u32 (pn : Nat), .int .u32 ((n) : Nat), .bool false, .int .u64 (sm : Nat), .slice a9 (pack LX).length c9, .int .i64 (LX.length : Nat)] 0) [.int .u32 (pc : Nat), .int .u32 (BN : Nat), .int .u32 (n : Nat)] rfl); have O9 : Hid (∃ e, W9 = over w e) := hid (Chg.ov O8.out C89.out (by simp; omega)); have N9 : Hid (OwnB w.heap.size W9 (.slice a9 (pack LX).length c9) (pack LX)) := hid (Own.mono (Own.chg N8.out C89.out (fun k hk => by have := (Own.lt N8.out hk).1; simp; omega)) (by omega)); clear hW9 f8 f9 l8 l9 c80 c81 c82 c83 c84 c85 c86 c87 c88 c89 c8a c90_ c91_ c92_ x0 x1 x2 x3 x4 x5 x6 x7 x8 x9 xa xl y0 y1 y2 yl n1 n2 n3 n4; have e80 := D8.out.cell 0 rfl; have e81 := D8.out.cell 1 rfl; have e82 := D8.out.cell 2 rfl; have e83 := D8.out.cell 3 rfl; have e84 := D8.out.cell 4 rfl; have e85 := D8.out.cell 5 rfl; have e86 := D8.out.cell 6 rfl; have e87 := D8.out.cell 7 rfl; have e88 := D8.out.cell 8 rfl; have e89 := D8.out.cell 9 rfl; have e8a := D8.out.cell 10 rfl; have e90 := D9.out.cell 0 rfl; have e91 := D9.out.cell 1 rfl; have e92 := D9.out.cell 2 rfl; have k8 := D8.out.lt; have k9 := D9.out.lt
        (try simp only [Exit.inBlock, Exit.then])
        refine bodyPost_ret (v := ?rv101) ?rh101 rfl ?rp101
        case rh101 => (simp only [results, show Tryz.f60.results = #[.cell 8 51, .cell 9 46, .tmp 10] from rfl]; go_simp; rfl)
        unfold RCutPost; rw [HF9.out, HT9.out]; exact ⟨a9, c9, rfl, O9.out, N9.out⟩
       | true =>
        have hFF := HFr.out; have hTT := HTo.out; have hnc : ((n : Int) == (c.length : Int)) = false := by rw [beq_eq_false_iff_ne]; omega
        have hnc2 : (n == c.length) = false := by rw [beq_eq_false_iff_ne]; omega
        rw [decide_eq_false (by omega), Bool.and_false] at hFF; rw [if_neg (by omega)] at hTT; have HF9 := hid hFF; have HT9 := hid hTT; clear hFF hTT
        go_wp2_with (first
          | (go_at_call 87; (with_reducible refine (HPN _ (ovB O4.out)).mono ?_); rintro _ _ ⟨⟨e5, rfl⟩, rfl⟩)
          | (go_at_call 88; (with_reducible refine (HO.out _ _ _ (by exact tabA HT4.out) (by exact slA HS7.out)).mono ?_); rintro _ _ ⟨a6, c6, rfl, ⟨e6, rfl⟩, o6⟩; (try simp only [odr] at o6); have HS6 := hid (Own.slice' bcs_len o6).2; clear o6)
          | (go_at_call 89; (with_reducible refine (HX.out _ _ _ (by exact slA HS6.out)).mono ?_); rintro _ _ ⟨a9, c9, rfl, ⟨e9, rfl⟩, o9⟩; (try simp only [odr] at o9); have HS9 := hid o9; clear o9))
        refine gen_w ?_; intro W8 hW8; obtain ⟨p16, hp16⟩ : ∃ p, p = W4.heap.size + e0.heap.size + e4.heap.size + e5.heap.size := ⟨_, rfl⟩; obtain ⟨p22, hp22⟩ : ∃ p, p = W4.heap.size + e0.heap.size + e4.heap.size + e5.heap.size + 1 + e6.heap.size + 1 + 1 + e9.heap.size + 1 := ⟨_, rfl⟩; have O84 : Hid (∃ e, W8 = over W4 e) := hid (by rw [hW8]; exact ovA); have O8 : Hid (∃ e, W8 = over w e) := hid (over_trans O4.out O84.out); have hw4 := C9.out.lt; have P16 : Hid (Blk W8 p16 [.int .u32 (pc : Nat), .int .u32 (BN : Nat), .int .u32 (n : Nat)] 46) := hid (by rw [hW8, hp16]; first | exact (by exact blA) | exact (by exact bkA)); have P22 : Hid (Blk W8 p22 [.int .u8 0, .int .u32 0, .int .u32 (id : Nat), .int .u32 (pc : Nat), .int .u32 (pb : Nat), .int .u32 (pn : Nat), .int .u32 ((n) : Nat), .bool false, .int .u64 (sm : Nat), .slice a9 (pack LX).length c9, .int .i64 (LX.length : Nat)] 51) := hid (by rw [hW8, hp22]; first | exact (by exact blA) | exact (by exact bkA)); have N8 : Hid (OwnB W4.heap.size W8 (.slice a9 (pack LX).length c9) (pack LX)) := hid (by have h9 := Own.mono (base' := W4.heap.size) HS9.out (by simp; omega); rw [hW8]; exact (by exact ownA h9)); rw [← hp22, ← hp16]; have hp1 : W4.heap.size ≤ p16 := by omega
        have hp2 : W4.heap.size ≤ p22 := by omega
        clear hW8 hp16 hp22 HS9 b60 b61 b62 lb6 b140 b141 lb14; have C8 : Hid (Blk W8 (w.heap.size + 1) [.int .u8 0, .int .u32 0, .int .u32 0, .int .u32 0, .int .u32 0, .int .u32 0, .int .u32 0, .bool false, .int .u64 0, .slice none 0 0, .int .i64 0] 51) := hid (by obtain ⟨e, he⟩ := O84.out; rw [he]; exact Blk.on C8.out e); have C9 : Hid (Blk W8 (w.heap.size + 1 + 1) [.int .u32 0, .int .u32 0, .int .u32 0] 46) := hid (by obtain ⟨e, he⟩ := O84.out; rw [he]; exact Blk.on C9.out e); have x0 := P22.out.cell 0 rfl; have x1 := P22.out.cell 1 rfl; have x2 := P22.out.cell 2 rfl; have x3 := P22.out.cell 3 rfl; have x4 := P22.out.cell 4 rfl; have x5 := P22.out.cell 5 rfl; have x6 := P22.out.cell 6 rfl; have x7 := P22.out.cell 7 rfl; have x8 := P22.out.cell 8 rfl; have x9 := P22.out.cell 9 rfl; have xa := P22.out.cell 10 rfl; have xl := P22.out.lt; have y0 := P16.out.cell 0 rfl; have y1 := P16.out.cell 1 rfl; have y2 := P16.out.cell 2 rfl; have yl := P16.out.lt; have f8 : ∀ j, W8.frozen? ⟨w.heap.size + 1, j, none⟩ = false := fun j => C8.out.free j; have f9 : ∀ j, W8.frozen? ⟨w.heap.size + 1 + 1, j, none⟩ = false := fun j => C9.out.free j; have c80 := C8.out.cell 0 rfl; have c81 := C8.out.cell 1 rfl; have c82 := C8.out.cell 2 rfl; have c83 := C8.out.cell 3 rfl; have c84 := C8.out.cell 4 rfl; have c85 := C8.out.cell 5 rfl; have c86 := C8.out.cell 6 rfl; have c87 := C8.out.cell 7 rfl; have c88 := C8.out.cell 8 rfl; have c89 := C8.out.cell 9 rfl; have c8a := C8.out.cell 10 rfl; have c90_ := C9.out.cell 0 rfl; have c91_ := C9.out.cell 1 rfl; have c92_ := C9.out.cell 2 rfl; have l8 := C8.out.lt; have l9 := C9.out.lt; obtain ⟨F, hF⟩ : ∃ F, F = [w.heap.size + 1, w.heap.size + 1 + 1] := ⟨_, rfl⟩; have n1 : w.heap.size + 1 ∈ F := by rw [hF]; simp
        have n2 : w.heap.size + 1 + 1 ∈ F := by rw [hF]; simp
        have n3 : p22 ∉ F := by rw [hF]; simp; omega
        have n4 : p16 ∉ F := by rw [hF]; simp; omega
        clear hF; go_wp2; refine M2.wrz (fun w' => ∃ m : Mut, w' = chg F _ m) [2, 3] 5 (by kernel_rfl) (by kernel_rfl) (by decide) (chg_of (Chg.refl _ _)) ?_; simp only [M2.td]; with_reducible refine M2.mlq 2 (by kernel_rfl) ?_
        simp only [M2.td]; repeat (go_big_quiet_step (fail))
        with_reducible refine wpQuiet_nil ?_
        with_reducible refine M2.mle (by decide) ?_
        go_wp2_with (fail)
        refine M2.MixQ.mk (chg_of (by exact chA)) ?_; with_reducible refine M2.mle (by decide) ?_
        go_wp2_with (fail)
        refine M2.MixQ.mk (chg_of (by exact chA)) ?_; with_reducible refine M2.mlq 1 (by kernel_rfl) ?_
        simp only [M2.td]; repeat (go_big_quiet_step (fail))
        with_reducible refine wpQuiet_nil ?_
        with_reducible refine M2.mln ?_
        with_reducible refine M2.mln ?_
        go_wp2; refine gen_w ?_; intro W9 hW9; have C89 : Hid (Chg [w.heap.size + 1, w.heap.size + 1 + 1] W8 W9) := hid (by rw [hW9]; exact (by exact chA)); have D8 : Hid (Blk W9 (w.heap.size + 1) [.int .u8 0, .int .u32 0, .int .u32 (id : Nat), .int .u32 (pc : Nat), .int .u32 (pb : Nat), .int .u32 (pn : Nat), .int .u32 ((n) : Nat), .bool false, .int .u64 (sm : Nat), .slice a9 (pack LX).length c9, .int .i64 (LX.length : Nat)] 51) := hid (by rw [hW9]; refine Blk.drew ?_; exact Blk.off (Blk.full C8.out [.int .u8 0, .int .u32 0, .int .u32 (id : Nat), .int .u32 (pc : Nat), .int .u32 (pb : Nat), .int .u32 (pn : Nat), .int .u32 ((n) : Nat), .bool false, .int .u64 (sm : Nat), .slice a9 (pack LX).length c9, .int .i64 (LX.length : Nat)] rfl) (by omega) [.int .u32 (pc : Nat), .int .u32 (BN : Nat), .int .u32 (n : Nat)] 0); have D9 : Hid (Blk W9 (w.heap.size + 1 + 1) [.int .u32 (pc : Nat), .int .u32 (BN : Nat), .int .u32 (n : Nat)] 46) := hid (by rw [hW9]; refine Blk.drew ?_; exact Blk.full (Blk.off C9.out (by omega) [.int .u8 0, .int .u32 0, .int .u32 (id : Nat), .int .u32 (pc : Nat), .int .u32 (pb : Nat), .int .u32 (pn : Nat), .int .u32 ((n) : Nat), .bool false, .int .u64 (sm : Nat), .slice a9 (pack LX).length c9, .int .i64 (LX.length : Nat)] 0) [.int .u32 (pc : Nat), .int .u32 (BN : Nat), .int .u32 (n : Nat)] rfl); have O9 : Hid (∃ e, W9 = over w e) := hid (Chg.ov O8.out C89.out (by simp; omega)); have N9 : Hid (OwnB w.heap.size W9 (.slice a9 (pack LX).length c9) (pack LX)) := hid (Own.mono (Own.chg N8.out C89.out (fun k hk => by have := (Own.lt N8.out hk).1; simp; omega)) (by omega)); clear hW9 f8 f9 l8 l9 c80 c81 c82 c83 c84 c85 c86 c87 c88 c89 c8a c90_ c91_ c92_ x0 x1 x2 x3 x4 x5 x6 x7 x8 x9 xa xl y0 y1 y2 yl n1 n2 n3 n4; have e80 := D8.out.cell 0 rfl; have e81 := D8.out.cell 1 rfl; have e82 := D8.out.cell 2 rfl; have e83 := D8.out.cell 3 rfl; have e84 := D8.out.cell 4 rfl; have e85 := D8.out.cell 5 rfl; have e86 := D8.out.cell 6 rfl; have e87 := D8.out.cell 7 rfl; have e88 := D8.out.cell 8 rfl; have e89 := D8.out.cell 9 rfl; have e8a := D8.out.cell 10 rfl; have e90 := D9.out.cell 0 rfl; have e91 := D9.out.cell 1 rfl; have e92 := D9.out.cell 2 rfl; have k8 := D8.out.lt; have k9 := D9.out.lt
        (try simp only [Exit.inBlock, Exit.then])
        refine bodyPost_ret (v := ?rv102) ?rh102 rfl ?rp102
        case rh102 => (simp only [results, show Tryz.f60.results = #[.cell 8 51, .cell 9 46, .tmp 10] from rfl]; go_simp; rfl)
        unfold RCutPost; rw [HF9.out, HT9.out]; exact ⟨a9, c9, rfl, O9.out, N9.out⟩
   · obtain rfl : n = c.length := by omega
     have hn5 : c.length = N := by
      cases f with
      | zero => exact hn4
      | succ f =>
       have hstp : cutTo c pb most (f + 1) c.length = if c.length < c.length ∧ (blen c (c.length + 1) : Int) - pb ≤ most then cutTo c pb most f (c.length + 1) else c.length := rfl
       rw [hstp, if_neg (fun hh => by omega)] at hn4; exact hn4
     have hd1 : decide (c.length < c.length) = false := decide_eq_false (by omega); clear hn4; go_wp2; refine M2.wrm [12] 22 (by kernel_rfl) (by kernel_rfl) (by decide) ?_; simp only [M2.td]; with_reducible refine M2.mlq 12 (by kernel_rfl) ?_
     simp only [M2.td]; repeat (go_big_quiet_step (fail))
     with_reducible refine wpQuiet_nil ?_
     with_reducible refine M2.mle (by decide) ?_
     go_wp2_with (fail)
     refine M2.MixQ.mk ovA ?_; with_reducible refine M2.mlq 9 (by kernel_rfl) ?_
     simp only [M2.td]; repeat (go_big_quiet_step (fail))
     with_reducible refine wpQuiet_nil ?_
     with_reducible refine M2.mln ?_
     with_reducible refine M2.mln ?_
     subst hn5; have HPN := HPl.out (c.length) (by omega); have hbN := blen_le HOK.out (c.length); have hpbN : pb ≤ blen c (c.length) := by rw [← HPB.out]; exact blen_mono c (by omega)
     obtain ⟨m, hm1, hm2⟩ := cut_bits c hpbN; obtain ⟨n0, n1, n2, n3, n4, n5, n6, HO⟩ := rcof_n HOK.out (n := (c.length)) (by omega); have HO := hid HO.of2; obtain ⟨BN, hBN⟩ : ∃ z, blen c (c.length) = z := ⟨_, rfl⟩; obtain ⟨LN, hLN⟩ : ∃ z, bitsC En.zero (c.take (c.length)) = z := ⟨_, rfl⟩; have hLB : LN.length = BN := by rw [← hLN, ← hBN]; rfl
     rw [hLN] at hm1 hm2 HO; have HX : Hid (∀ a cap W, SlB W a cap (pack LN) → Calls Tryz.prog 89 #[bv a (pack LN).length cap LN.length, .int .i64 (pb : Nat), .int .i64 (LN.length : Nat)] W (RbOwn W ((LN.drop pb).take m))) := hid (fun a cap W hW => by
      have h := rcut_own LN (by omega) pb m (by omega) a cap W hW; rw [← hm1] at h; exact h)
     obtain ⟨LX, hLX⟩ : ∃ z, (LN.drop pb).take m = z := ⟨_, rfl⟩; rw [hLX] at HX hm2; rw [hLB] at HX; rw [hBN] at HPN hbN hm2; have HFr : Hid (cutF id c cl ⟨pc, pb, pn⟩ most = ⟨id, ⟨pc, pb, pn⟩, (c.length), cl && decide ((c.length) = c.length), sm, LX⟩) := hid (by unfold cutF; rw [HN.out, HSM.out]; simp only; rw [hBN, ← hm2]); have HTo : Hid (cutPl c cl ⟨pc, pb, pn⟩ most = if cl = true ∧ (c.length) = c.length then ⟨pc + 1, 0, 0⟩ else ⟨pc, BN, (c.length)⟩) := hid (by unfold cutPl; rw [HN.out]; simp only; rw [hBN]); obtain ⟨ra2, rc2, q7, s7⟩ := run_take sample_elem (HRow.out _ ovA) (l := (c.length)) (by omega); rw [List.length_take, Nat.min_eq_left (show (c.length) ≤ c.length by omega)] at q7; have HS7 := hid (Sl.ov s7 O4.out); clear hm1 hm2 hBN hLN hLX hpbN s7; cases cl with
     | false =>
      have hFF := HFr.out; have hTT := HTo.out; simp only [Bool.false_and] at hFF; rw [if_neg (by simp)] at hTT; have HF9 := hid hFF; have HT9 := hid hTT; clear hFF hTT
      go_wp2_with (first
        | (go_at_call 87; (with_reducible refine (HPN _ (ovB O4.out)).mono ?_); rintro _ _ ⟨⟨e5, rfl⟩, rfl⟩)
        | (go_at_call 88; (with_reducible refine (HO.out _ _ _ (by exact tabA HT4.out) (by exact slA HS7.out)).mono ?_); rintro _ _ ⟨a6, c6, rfl, ⟨e6, rfl⟩, o6⟩; (try simp only [odr] at o6); have HS6 := hid (Own.slice' bcs_len o6).2; clear o6)
        | (go_at_call 89; (with_reducible refine (HX.out _ _ _ (by exact slA HS6.out)).mono ?_); rintro _ _ ⟨a9, c9, rfl, ⟨e9, rfl⟩, o9⟩; (try simp only [odr] at o9); have HS9 := hid o9; clear o9))
      refine gen_w ?_; intro W8 hW8; obtain ⟨p16, hp16⟩ : ∃ p, p = W4.heap.size + e0.heap.size + e5.heap.size := ⟨_, rfl⟩; obtain ⟨p22, hp22⟩ : ∃ p, p = W4.heap.size + e0.heap.size + e5.heap.size + 1 + e6.heap.size + 1 + 1 + e9.heap.size + 1 := ⟨_, rfl⟩; have O84 : Hid (∃ e, W8 = over W4 e) := hid (by rw [hW8]; exact ovA); have O8 : Hid (∃ e, W8 = over w e) := hid (over_trans O4.out O84.out); have hw4 := C9.out.lt; have P16 : Hid (Blk W8 p16 [.int .u32 (pc : Nat), .int .u32 (BN : Nat), .int .u32 (c.length : Nat)] 46) := hid (by rw [hW8, hp16]; first | exact (by exact blA) | exact (by exact bkA)); have P22 : Hid (Blk W8 p22 [.int .u8 0, .int .u32 0, .int .u32 (id : Nat), .int .u32 (pc : Nat), .int .u32 (pb : Nat), .int .u32 (pn : Nat), .int .u32 ((c.length) : Nat), .bool false, .int .u64 (sm : Nat), .slice a9 (pack LX).length c9, .int .i64 (LX.length : Nat)] 51) := hid (by rw [hW8, hp22]; first | exact (by exact blA) | exact (by exact bkA)); have N8 : Hid (OwnB W4.heap.size W8 (.slice a9 (pack LX).length c9) (pack LX)) := hid (by have h9 := Own.mono (base' := W4.heap.size) HS9.out (by simp; omega); rw [hW8]; exact (by exact ownA h9)); rw [← hp22, ← hp16]; have hp1 : W4.heap.size ≤ p16 := by omega
      have hp2 : W4.heap.size ≤ p22 := by omega
      clear hW8 hp16 hp22 HS9 b60 b61 b62 lb6 b140 b141 lb14; have C8 : Hid (Blk W8 (w.heap.size + 1) [.int .u8 0, .int .u32 0, .int .u32 0, .int .u32 0, .int .u32 0, .int .u32 0, .int .u32 0, .bool false, .int .u64 0, .slice none 0 0, .int .i64 0] 51) := hid (by obtain ⟨e, he⟩ := O84.out; rw [he]; exact Blk.on C8.out e); have C9 : Hid (Blk W8 (w.heap.size + 1 + 1) [.int .u32 0, .int .u32 0, .int .u32 0] 46) := hid (by obtain ⟨e, he⟩ := O84.out; rw [he]; exact Blk.on C9.out e); have x0 := P22.out.cell 0 rfl; have x1 := P22.out.cell 1 rfl; have x2 := P22.out.cell 2 rfl; have x3 := P22.out.cell 3 rfl; have x4 := P22.out.cell 4 rfl; have x5 := P22.out.cell 5 rfl; have x6 := P22.out.cell 6 rfl; have x7 := P22.out.cell 7 rfl; have x8 := P22.out.cell 8 rfl; have x9 := P22.out.cell 9 rfl; have xa := P22.out.cell 10 rfl; have xl := P22.out.lt; have y0 := P16.out.cell 0 rfl; have y1 := P16.out.cell 1 rfl; have y2 := P16.out.cell 2 rfl; have yl := P16.out.lt; have f8 : ∀ j, W8.frozen? ⟨w.heap.size + 1, j, none⟩ = false := fun j => C8.out.free j; have f9 : ∀ j, W8.frozen? ⟨w.heap.size + 1 + 1, j, none⟩ = false := fun j => C9.out.free j; have c80 := C8.out.cell 0 rfl; have c81 := C8.out.cell 1 rfl; have c82 := C8.out.cell 2 rfl; have c83 := C8.out.cell 3 rfl; have c84 := C8.out.cell 4 rfl; have c85 := C8.out.cell 5 rfl; have c86 := C8.out.cell 6 rfl; have c87 := C8.out.cell 7 rfl; have c88 := C8.out.cell 8 rfl; have c89 := C8.out.cell 9 rfl; have c8a := C8.out.cell 10 rfl; have c90_ := C9.out.cell 0 rfl; have c91_ := C9.out.cell 1 rfl; have c92_ := C9.out.cell 2 rfl; have l8 := C8.out.lt; have l9 := C9.out.lt; obtain ⟨F, hF⟩ : ∃ F, F = [w.heap.size + 1, w.heap.size + 1 + 1] := ⟨_, rfl⟩; have n1 : w.heap.size + 1 ∈ F := by rw [hF]; simp
      have n2 : w.heap.size + 1 + 1 ∈ F := by rw [hF]; simp
      have n3 : p22 ∉ F := by rw [hF]; simp; omega
      have n4 : p16 ∉ F := by rw [hF]; simp; omega
      clear hF; go_wp2; refine M2.wrz (fun w' => ∃ m : Mut, w' = chg F _ m) [2, 3] 5 (by kernel_rfl) (by kernel_rfl) (by decide) (chg_of (Chg.refl _ _)) ?_; simp only [M2.td]; with_reducible refine M2.mlq 2 (by kernel_rfl) ?_
      simp only [M2.td]; repeat (go_big_quiet_step (fail))
      with_reducible refine wpQuiet_nil ?_
      with_reducible refine M2.mle (by decide) ?_
      go_wp2_with (fail)
      refine M2.MixQ.mk (chg_of (by exact chA)) ?_; with_reducible refine M2.mle (by decide) ?_
      go_wp2_with (fail)
      refine M2.MixQ.mk (chg_of (by exact chA)) ?_; with_reducible refine M2.mlq 1 (by kernel_rfl) ?_
      simp only [M2.td]; repeat (go_big_quiet_step (fail))
      with_reducible refine wpQuiet_nil ?_
      with_reducible refine M2.mln ?_
      with_reducible refine M2.mln ?_
      go_wp2; refine gen_w ?_; intro W9 hW9; have C89 : Hid (Chg [w.heap.size + 1, w.heap.size + 1 + 1] W8 W9) := hid (by rw [hW9]; exact (by exact chA)); have D8 : Hid (Blk W9 (w.heap.size + 1) [.int .u8 0, .int .u32 0, .int .u32 (id : Nat), .int .u32 (pc : Nat), .int .u32 (pb : Nat), .int .u32 (pn : Nat), .int .u32 ((c.length) : Nat), .bool false, .int .u64 (sm : Nat), .slice a9 (pack LX).length c9, .int .i64 (LX.length : Nat)] 51) := hid (by rw [hW9]; refine Blk.drew ?_; exact Blk.off (Blk.full C8.out [.int .u8 0, .int .u32 0, .int .u32 (id : Nat), .int .u32 (pc : Nat), .int .u32 (pb : Nat), .int .u32 (pn : Nat), .int .u32 ((c.length) : Nat), .bool false, .int .u64 (sm : Nat), .slice a9 (pack LX).length c9, .int .i64 (LX.length : Nat)] rfl) (by omega) [.int .u32 (pc : Nat), .int .u32 (BN : Nat), .int .u32 (c.length : Nat)] 0); have D9 : Hid (Blk W9 (w.heap.size + 1 + 1) [.int .u32 (pc : Nat), .int .u32 (BN : Nat), .int .u32 (c.length : Nat)] 46) := hid (by rw [hW9]; refine Blk.drew ?_; exact Blk.full (Blk.off C9.out (by omega) [.int .u8 0, .int .u32 0, .int .u32 (id : Nat), .int .u32 (pc : Nat), .int .u32 (pb : Nat), .int .u32 (pn : Nat), .int .u32 ((c.length) : Nat), .bool false, .int .u64 (sm : Nat), .slice a9 (pack LX).length c9, .int .i64 (LX.length : Nat)] 0) [.int .u32 (pc : Nat), .int .u32 (BN : Nat), .int .u32 (c.length : Nat)] rfl); have O9 : Hid (∃ e, W9 = over w e) := hid (Chg.ov O8.out C89.out (by simp; omega)); have N9 : Hid (OwnB w.heap.size W9 (.slice a9 (pack LX).length c9) (pack LX)) := hid (Own.mono (Own.chg N8.out C89.out (fun k hk => by have := (Own.lt N8.out hk).1; simp; omega)) (by omega)); clear hW9 f8 f9 l8 l9 c80 c81 c82 c83 c84 c85 c86 c87 c88 c89 c8a c90_ c91_ c92_ x0 x1 x2 x3 x4 x5 x6 x7 x8 x9 xa xl y0 y1 y2 yl n1 n2 n3 n4; have e80 := D8.out.cell 0 rfl; have e81 := D8.out.cell 1 rfl; have e82 := D8.out.cell 2 rfl; have e83 := D8.out.cell 3 rfl; have e84 := D8.out.cell 4 rfl; have e85 := D8.out.cell 5 rfl; have e86 := D8.out.cell 6 rfl; have e87 := D8.out.cell 7 rfl; have e88 := D8.out.cell 8 rfl; have e89 := D8.out.cell 9 rfl; have e8a := D8.out.cell 10 rfl; have e90 := D9.out.cell 0 rfl; have e91 := D9.out.cell 1 rfl; have e92 := D9.out.cell 2 rfl; have k8 := D8.out.lt; have k9 := D9.out.lt
      (try simp only [Exit.inBlock, Exit.then])
      refine bodyPost_ret (v := ?rv103) ?rh103 rfl ?rp103
      case rh103 => (simp only [results, show Tryz.f60.results = #[.cell 8 51, .cell 9 46, .tmp 10] from rfl]; go_simp; rfl)
      unfold RCutPost; rw [HF9.out, HT9.out]; exact ⟨a9, c9, rfl, O9.out, N9.out⟩
     | true =>
      have hFF := HFr.out; have hTT := HTo.out; rw [decide_eq_true rfl, Bool.and_true] at hFF; rw [if_pos ⟨rfl, rfl⟩] at hTT; have HF9 := hid hFF; have HT9 := hid hTT; clear hFF hTT; have hpc1 : IntKind.u32.wrap ((pc : Int) + 1) = ((pc + 1 : Nat) : Int) := by rw [IntKind.wrap_u32]; omega
      have hpc3 : ((pc : Int) + 1) % 4294967296 = ((pc + 1 : Nat) : Int) := by omega
      go_wp2_with (first
        | (go_at_call 87; (with_reducible refine (HPN _ (ovB O4.out)).mono ?_); rintro _ _ ⟨⟨e5, rfl⟩, rfl⟩)
        | (go_at_call 88; (with_reducible refine (HO.out _ _ _ (by exact tabA HT4.out) (by exact slA HS7.out)).mono ?_); rintro _ _ ⟨a6, c6, rfl, ⟨e6, rfl⟩, o6⟩; (try simp only [odr] at o6); have HS6 := hid (Own.slice' bcs_len o6).2; clear o6)
        | (go_at_call 89; (with_reducible refine (HX.out _ _ _ (by exact slA HS6.out)).mono ?_); rintro _ _ ⟨a9, c9, rfl, ⟨e9, rfl⟩, o9⟩; (try simp only [odr] at o9); have HS9 := hid o9; clear o9))
      refine gen_w ?_; intro W8 hW8; obtain ⟨p16, hp16⟩ : ∃ p, p = W4.heap.size + e0.heap.size + e5.heap.size := ⟨_, rfl⟩; obtain ⟨p22, hp22⟩ : ∃ p, p = W4.heap.size + e0.heap.size + e5.heap.size + 1 + e6.heap.size + 1 + 1 + e9.heap.size + 1 := ⟨_, rfl⟩; have O84 : Hid (∃ e, W8 = over W4 e) := hid (by rw [hW8]; exact ovA); have O8 : Hid (∃ e, W8 = over w e) := hid (over_trans O4.out O84.out); have hw4 := C9.out.lt; have P16 : Hid (Blk W8 p16 [.int .u32 ((pc + 1 : Nat) : Int), .int .u32 0, .int .u32 0] 46) := hid (by rw [hW8, hp16]; first | exact (by exact blA) | exact (by exact bkA)); have P22 : Hid (Blk W8 p22 [.int .u8 0, .int .u32 0, .int .u32 (id : Nat), .int .u32 (pc : Nat), .int .u32 (pb : Nat), .int .u32 (pn : Nat), .int .u32 ((c.length) : Nat), .bool true, .int .u64 (sm : Nat), .slice a9 (pack LX).length c9, .int .i64 (LX.length : Nat)] 51) := hid (by rw [hW8, hp22]; first | exact (by exact blA) | exact (by exact bkA)); have N8 : Hid (OwnB W4.heap.size W8 (.slice a9 (pack LX).length c9) (pack LX)) := hid (by have h9 := Own.mono (base' := W4.heap.size) HS9.out (by simp; omega); exact Own.chg (F := [W4.heap.size + e0.heap.size + e5.heap.size]) h9 (by rw [hW8]; exact (by exact chA)) (fun g hg => by have := (Own.lt HS9.out hg).1; simp at this ⊢; omega)); rw [← hp22, ← hp16]; have hp1 : W4.heap.size ≤ p16 := by omega
      have hp2 : W4.heap.size ≤ p22 := by omega
      clear hW8 hp16 hp22 HS9 b60 b61 b62 lb6 b140 b141 lb14; have C8 : Hid (Blk W8 (w.heap.size + 1) [.int .u8 0, .int .u32 0, .int .u32 0, .int .u32 0, .int .u32 0, .int .u32 0, .int .u32 0, .bool false, .int .u64 0, .slice none 0 0, .int .i64 0] 51) := hid (by obtain ⟨e, he⟩ := O84.out; rw [he]; exact Blk.on C8.out e); have C9 : Hid (Blk W8 (w.heap.size + 1 + 1) [.int .u32 0, .int .u32 0, .int .u32 0] 46) := hid (by obtain ⟨e, he⟩ := O84.out; rw [he]; exact Blk.on C9.out e); have x0 := P22.out.cell 0 rfl; have x1 := P22.out.cell 1 rfl; have x2 := P22.out.cell 2 rfl; have x3 := P22.out.cell 3 rfl; have x4 := P22.out.cell 4 rfl; have x5 := P22.out.cell 5 rfl; have x6 := P22.out.cell 6 rfl; have x7 := P22.out.cell 7 rfl; have x8 := P22.out.cell 8 rfl; have x9 := P22.out.cell 9 rfl; have xa := P22.out.cell 10 rfl; have xl := P22.out.lt; have y0 := P16.out.cell 0 rfl; have y1 := P16.out.cell 1 rfl; have y2 := P16.out.cell 2 rfl; have yl := P16.out.lt; have f8 : ∀ j, W8.frozen? ⟨w.heap.size + 1, j, none⟩ = false := fun j => C8.out.free j; have f9 : ∀ j, W8.frozen? ⟨w.heap.size + 1 + 1, j, none⟩ = false := fun j => C9.out.free j; have c80 := C8.out.cell 0 rfl; have c81 := C8.out.cell 1 rfl; have c82 := C8.out.cell 2 rfl; have c83 := C8.out.cell 3 rfl; have c84 := C8.out.cell 4 rfl; have c85 := C8.out.cell 5 rfl; have c86 := C8.out.cell 6 rfl; have c87 := C8.out.cell 7 rfl; have c88 := C8.out.cell 8 rfl; have c89 := C8.out.cell 9 rfl; have c8a := C8.out.cell 10 rfl; have c90_ := C9.out.cell 0 rfl; have c91_ := C9.out.cell 1 rfl; have c92_ := C9.out.cell 2 rfl; have l8 := C8.out.lt; have l9 := C9.out.lt; obtain ⟨F, hF⟩ : ∃ F, F = [w.heap.size + 1, w.heap.size + 1 + 1] := ⟨_, rfl⟩; have n1 : w.heap.size + 1 ∈ F := by rw [hF]; simp
      have n2 : w.heap.size + 1 + 1 ∈ F := by rw [hF]; simp
      have n3 : p22 ∉ F := by rw [hF]; simp; omega
      have n4 : p16 ∉ F := by rw [hF]; simp; omega
      clear hF; go_wp2; refine M2.wrz (fun w' => ∃ m : Mut, w' = chg F _ m) [2, 3] 5 (by kernel_rfl) (by kernel_rfl) (by decide) (chg_of (Chg.refl _ _)) ?_; simp only [M2.td]; with_reducible refine M2.mlq 2 (by kernel_rfl) ?_
      simp only [M2.td]; repeat (go_big_quiet_step (fail))
      with_reducible refine wpQuiet_nil ?_
      with_reducible refine M2.mle (by decide) ?_
      go_wp2_with (fail)
      refine M2.MixQ.mk (chg_of (by exact chA)) ?_; with_reducible refine M2.mle (by decide) ?_
      go_wp2_with (fail)
      refine M2.MixQ.mk (chg_of (by exact chA)) ?_; with_reducible refine M2.mlq 1 (by kernel_rfl) ?_
      simp only [M2.td]; repeat (go_big_quiet_step (fail))
      with_reducible refine wpQuiet_nil ?_
      with_reducible refine M2.mln ?_
      with_reducible refine M2.mln ?_
      go_wp2; refine gen_w ?_; intro W9 hW9; have C89 : Hid (Chg [w.heap.size + 1, w.heap.size + 1 + 1] W8 W9) := hid (by rw [hW9]; exact (by exact chA)); have D8 : Hid (Blk W9 (w.heap.size + 1) [.int .u8 0, .int .u32 0, .int .u32 (id : Nat), .int .u32 (pc : Nat), .int .u32 (pb : Nat), .int .u32 (pn : Nat), .int .u32 ((c.length) : Nat), .bool true, .int .u64 (sm : Nat), .slice a9 (pack LX).length c9, .int .i64 (LX.length : Nat)] 51) := hid (by rw [hW9]; refine Blk.drew ?_; exact Blk.off (Blk.full C8.out [.int .u8 0, .int .u32 0, .int .u32 (id : Nat), .int .u32 (pc : Nat), .int .u32 (pb : Nat), .int .u32 (pn : Nat), .int .u32 ((c.length) : Nat), .bool true, .int .u64 (sm : Nat), .slice a9 (pack LX).length c9, .int .i64 (LX.length : Nat)] rfl) (by omega) [.int .u32 ((pc + 1 : Nat) : Int), .int .u32 0, .int .u32 0] 0); have D9 : Hid (Blk W9 (w.heap.size + 1 + 1) [.int .u32 ((pc + 1 : Nat) : Int), .int .u32 0, .int .u32 0] 46) := hid (by rw [hW9]; refine Blk.drew ?_; exact Blk.full (Blk.off C9.out (by omega) [.int .u8 0, .int .u32 0, .int .u32 (id : Nat), .int .u32 (pc : Nat), .int .u32 (pb : Nat), .int .u32 (pn : Nat), .int .u32 ((c.length) : Nat), .bool true, .int .u64 (sm : Nat), .slice a9 (pack LX).length c9, .int .i64 (LX.length : Nat)] 0) [.int .u32 ((pc + 1 : Nat) : Int), .int .u32 0, .int .u32 0] rfl); have O9 : Hid (∃ e, W9 = over w e) := hid (Chg.ov O8.out C89.out (by simp; omega)); have N9 : Hid (OwnB w.heap.size W9 (.slice a9 (pack LX).length c9) (pack LX)) := hid (Own.mono (Own.chg N8.out C89.out (fun k hk => by have := (Own.lt N8.out hk).1; simp; omega)) (by omega)); clear hW9 f8 f9 l8 l9 c80 c81 c82 c83 c84 c85 c86 c87 c88 c89 c8a c90_ c91_ c92_ x0 x1 x2 x3 x4 x5 x6 x7 x8 x9 xa xl y0 y1 y2 yl n1 n2 n3 n4; have e80 := D8.out.cell 0 rfl; have e81 := D8.out.cell 1 rfl; have e82 := D8.out.cell 2 rfl; have e83 := D8.out.cell 3 rfl; have e84 := D8.out.cell 4 rfl; have e85 := D8.out.cell 5 rfl; have e86 := D8.out.cell 6 rfl; have e87 := D8.out.cell 7 rfl; have e88 := D8.out.cell 8 rfl; have e89 := D8.out.cell 9 rfl; have e8a := D8.out.cell 10 rfl; have e90 := D9.out.cell 0 rfl; have e91 := D9.out.cell 1 rfl; have e92 := D9.out.cell 2 rfl; have k8 := D8.out.lt; have k9 := D9.out.lt
      (try simp only [Exit.inBlock, Exit.then])
      refine bodyPost_ret (v := ?rv104) ?rh104 rfl ?rp104
      case rh104 => (simp only [results, show Tryz.f60.results = #[.cell 8 51, .cell 9 46, .tmp 10] from rfl]; go_simp; rfl)
      unfold RCutPost; rw [HF9.out, HT9.out]; exact ⟨a9, c9, rfl, O9.out, N9.out⟩
end
section
open Go.RowKit
attribute [local go_sem] odr cdr
theorem cutTo_big (c : List Sm) (hc : ChkOk c) : ∀ f n, n ≤ c.length → c.length ≤ n + f → cutTo c 0 1073741824 f n = c.length
  | 0, n, h1, h2 => by unfold cutTo; omega
  | f + 1, n, h1, h2 => by
   unfold cutTo; split
   · rename_i h; exact cutTo_big c hc f (n + 1) h.1 (by omega)
   · rename_i h
     have := blen_le hc (n + 1); by_cases hn : n < c.length
     · exact absurd ⟨hn, by omega⟩ h
     · omega
theorem cutF_big (id k : Nat) {c : List Sm} (cl : Bool) (hok : ChkOk c) (hc : c ≠ []) : cutF id c cl ⟨k, 0, 0⟩ 1073741824 = chF id k c cl := by
 have hl := List.length_pos_iff.2 hc; have h1 : cutN c ⟨k, 0, 0⟩ 1073741824 = c.length := cutTo_big c hok _ _ (by simp only []; omega) (by simp only []; omega); unfold cutF chF; rw [h1]; have h2 : blen c c.length = (bitsC En.zero c).length := by unfold blen; rw [List.take_length]
 simp [h2, sum_zero]
def RCutW (w : World) (id k : Nat) (n : Nat) (cl : Bool) (l : List Bool) (BL : Nat) (en : Ending) (w' : World) : Prop :=
 ∃ a cap t0 t1 t2, en = .returned (.tuple #[.agg #[.int .u8 0, .int .u32 0, .int .u32 (id : Nat), .int .u32 (k : Nat), .int .u32 0, .int .u32 0, .int .u32 (n : Nat), .bool cl, .int .u64 0, .slice a (pack l).length cap, .int .i64 (BL : Nat)], .agg #[.int .u32 (t0 : Nat), .int .u32 (t1 : Nat), .int .u32 (t2 : Nat)], .int .i64 0]) ∧ (∃ e, w' = over w e) ∧ OwnB w.heap.size w' (.slice a (pack l).length cap) (pack l)
theorem rcut_whole {base : Nat} {w : World} {p sz : Nat} {v : Value} {rs : List Rr} {R : List (Nat × Sr)} (h : RbAt base w p sz v rs R) (hT : TabW w) (id : Nat) (hlen2 : rs.length ≤ 1000000) {s : Sr} (hs : getS R id = s) (hok : SrOk s) (hcl : s.cl.length ≤ 100000) {k : Nat} {c : List Sm} {cl : Bool} (ha : s.at_ k = some (c, cl)) (hc : c ≠ []) (W : World) (hW : ∃ e, W = over w e) :
    Calls Tryz.prog 60 #[.pointer (some ⟨p, 0, none⟩), .int .u32 (id : Nat), .agg #[.int .u32 (k : Nat), .int .u32 0, .int .u32 0], .int .i64 1073741824] W (RCutW W id k c.length cl (bitsC En.zero c) (bitsC En.zero c).length) := by
  have hh : s.has ⟨k, 0, 0⟩ c cl := ⟨ha, Nat.zero_le _, fun _ => List.length_pos_iff.2 hc, blen_zero _⟩; have hp : (⟨k, 0, 0⟩ : Pl) ≠ s.fin := by
   intro he; rcases hh.at_eq with ⟨h1, _, _⟩ | ⟨_, h2, _⟩
   · have := congrArg Pl.chunk he; simp only [Sr.fin] at this h1; omega
   · have := congrArg Pl.count he; simp only [Sr.fin, h2] at this; exact hc (List.eq_nil_of_length_eq_zero this.symm)
  refine (rcut_yes (RbAt.ov h hW) (TabW.ov hT hW) id hlen2 hs hok hcl hh hp 1073741824 (by omega)).mono ?_; rintro en w' ⟨a, cap, rfl, ho, hb⟩; rw [cutF_big id k cl (at_ok hok ha).1 hc] at hb ⊢; obtain ⟨t0, t1, t2⟩ := cutPl c cl ⟨k, 0, 0⟩ 1073741824; exact ⟨a, cap, t0, t1, t2, rfl, ho, hb⟩
theorem rchs_any {base : Nat} {w : World} {p sz : Nat} {v : Value} {rs : List Rr} {R : List (Nat × Sr)} (h : RbAt base w p sz v rs R) (hT : TabW w) (id : Nat) (hlen2 : rs.length ≤ 1000000) {s : Sr} (hs0 : getS R id = s) (hok : SrOk s) (hcl : s.cl.length ≤ 900) :
    Calls Tryz.prog 32 #[.pointer (some ⟨p, 0, none⟩), .int .u32 (id : Nat)] w (ChsP w (s.frs id (s.cl.length + 1))) := by
  have HA := hid (fun W (hW : ∃ e, W = over w e) => rchunks_any (RbAt.ov h hW) id hlen2); rw [hs0] at HA; have HC := hid (fun k c cl (ha : s.at_ k = Option.some (c, cl)) (hc : c ≠ []) W (hW : ∃ e, W = over w e) => rcut_whole h hT id hlen2 hs0 hok (by omega) ha hc W hW); have HOK := hid hok; clear h hs0 hok hT
  go_enter Tryz.func32, Tryz.ntmps32
  go_wp2_with (
    (go_at_call 25)
    (with_reducible refine (HA.out _ ovA).mono ?_)
    rintro _ w1 ⟨⟨e1, hw1⟩, ca, cc, ck, rfl, hck, hcs⟩; have O1 : Hid (∃ e, w1 = over w e) := hid (by rw [hw1]; exact ovA); have HK := hid hck; have HCS := hid hcs; have hkl := ck_len hcs; obtain ⟨m, hm⟩ : ∃ m, s.cl.length = m := ⟨_, rfl⟩; rw [hm] at hkl hcl; rw [hkl]; have HKL := hid hkl; have HM0 := hid hm; clear hw1 hck hcs hkl hm)
  go_loopw [5, 7, 8, 9, 10] (fun v i _ _ _ wr => ∃ (k : Nat) (l : List Fx), k ≤ m + 1 ∧ i = .int .i64 (k : Nat) ∧ l.map Fx.f = s.frs id k ∧ FrsAt w1.heap.size wr v l ∧ Ov w1 wr) (fun _ i _ _ _ _ => m + 1 - (intOf i).toNat)
  case atStart => exact ⟨0, [], Nat.zero_le _, rfl, rfl, FrsAt.nil _ _, ovA⟩
  case round =>
   obtain ⟨k, l, hk, rfl, hmap, hfr, ⟨e0, rfl⟩⟩ := hrel; obtain ⟨av, cv, rfl, _⟩ := Own.slice Fx.cs_len hfr.row; have HF := hid hfr; clear hfr; by_cases hlt : k < m + 1
   · obtain ⟨c, cl, hc1⟩ : ∃ c cl, s.at_ k = Option.some (c, cl) := by
      unfold Sr.at_; rcases Nat.lt_or_ge k s.cl.length with h1 | h1
      · exact ⟨s.cl[k], true, by simp [h1]⟩
      · have := HM0.out; exact ⟨s.op, false, by rw [dif_neg (by omega), if_pos (by omega)]⟩
     obtain ⟨hk2, hl2, _⟩ := ck_at HCS.out hc1; obtain ⟨cb, co, rfl, hcb, q0, q1⟩ := SlC.at_ HK.out.row hk2; rw [hl2] at q0; obtain ⟨ra, hra⟩ : (∃ z, (ck[k]'hk2).a = z) := ⟨_, rfl⟩; obtain ⟨rc, hrc⟩ : (∃ z, (ck[k]'hk2).c = z) := ⟨_, rfl⟩; rw [hra, hrc] at q0; have hss := frs_succ s id k hc1; have hlen : l.length ≤ k := by have := frs_len s id k; rw [← hmap] at this; simpa using this
     have hlc := (at_ok HOK.out hc1).1.len; by_cases hc0 : c = []
     · have hcl0 : c.length = 0 := by rw [hc0]; rfl
       rw [hcl0] at q0; rw [if_pos hc0, List.append_nil] at hss; have HSS := hid hss; have HM := hid hmap; clear hss hmap hc1 hc0 hl2 hra hrc q1 hcl0; go_wp2; go_roundw
       case rel => exact ⟨k + 1, l, by omega, by go_num, by rw [HSS.out]; exact HM.out, HF.out.ov ovA, ovA⟩
       case measure => (simp [intOf]; try omega)
     · have hcpos := List.length_pos_iff.2 hc0; rw [if_neg hc0] at hss; have HCut := hid (HC.out k c cl hc1 hc0); obtain ⟨LL, hLL⟩ : ∃ LL, bitsC En.zero c = LL := ⟨_, rfl⟩; obtain ⟨cn, hcn⟩ : ∃ cn, c.length = cn := ⟨_, rfl⟩; have hss2 : s.frs id (k + 1) = s.frs id k ++ [⟨id, ⟨k, 0, 0⟩, cn, cl, 0, LL⟩] := by rw [hss, ← hLL, ← hcn]; rfl
       rw [hLL, hcn] at HCut; rw [hcn] at q0 hcpos hlc; have hd0 : decide (0 < cn) = true := decide_eq_true hcpos; have HSS := hid hss2; have HM := hid hmap; clear hss hss2 hmap hc1 hc0 hLL hcn hl2 hra hrc q1
       go_wp2_with (first
         | (go_at_call 60
            (with_reducible refine (HCut.out _ (ovB O1.out)).mono ?_)
            rintro _ w2 ⟨a2, c2, t0, t1, t2, rfl, ⟨e2, hw2⟩, ho2⟩; have C2 : Hid (∃ e, w2 = over (over w1 e0) e) := hid (by rw [hw2]; exact ovA); have hsz2 : (over w1 e0).heap.size ≤ w2.heap.size := by rw [hw2]; simp
            have HB2 := hid ho2; clear hw2 ho2)
         | (at_builtin
            refine gen_w ?_; intro W3 hW3; have C3 : Hid (∃ e, W3 = over w2 e) := hid (by rw [hW3]; exact ovA); have C13 : Hid (∃ e, W3 = over (over w1 e0) e) := hid (by rw [hW3]; exact (ovB C2.out)); have S3 : Hid (Sl 11 Fx.cs W3 (some ⟨w2.heap.size + 1 + 1, 0, none⟩) 1 [(⟨⟨id, ⟨k, 0, 0⟩, cn, cl, 0, LL⟩, a2, c2⟩ : Fx)]) := hid (by rw [hW3]; exact (by (repeat with_reducible refine Sl.drew ?_); exact Sl.one_new (y := (⟨⟨id, ⟨k, 0, 0⟩, cn, cl, 0, LL⟩, a2, c2⟩ : Fx)) (by simp; try omega))); have HF3 := hid (HF.out.ov C13.out); have hav : ∀ g, (Value.slice av l.length cv).ownBlock = some g → g < (over w1 e0).heap.size := fun g hg => (Own.lt HF.out.row hg).2; have hbw3 : w1.heap.size ≤ W3.heap.size := by obtain ⟨z, hz⟩ := C13.out; rw [hz]; simp; omega
            have HB3 := hid (Own.chg (F := []) (Own.mono (base' := (over w1 e0).heap.size) HB2.out (by simp)) (Chg.of_ov C3.out []) (by simp)); refine wpList_append' frame_elem Fx.cs_len Fx.cs_one rfl (.tmp 37) (.tmp 39) rfl (base := w1.heap.size) (v := .slice av l.length cv) (ys := l) (xs := [(⟨⟨id, ⟨k, 0, 0⟩, cn, cl, 0, LL⟩, a2, c2⟩ : Fx)]) HF3.out.row rfl rfl hbw3 S3.out (by simp only [List.length_singleton]; unfold maxLen; omega) (by simp only [List.length_singleton]; omega) ?_; intro v5 m5 ho5 hv5; refine gen_w ?_; intro W5 hW5; have hc5 : Chg (Value.slice av l.length cv).ownBlock.toList W3 W5 := by rw [hW5]; exact chg_chg _ _ _
            rw [← hW5] at ho5; have HF5 := hid (FrsAt.push (x := (⟨⟨id, ⟨k, 0, 0⟩, cn, cl, 0, LL⟩, a2, c2⟩ : Fx)) HF3.out HB3.out (by simp) hav hc5 ho5 hv5); have C15 : Hid (∃ e, W5 = over w1 e) := hid (Chg.ov (ov_tr ⟨e0, rfl⟩ C13.out) hc5 (fun g hg => (Own.lt HF3.out.row (by simpa using hg)).1)); clear hW3 hW5 hc5 ho5 hv5 hav))
       go_roundw
       case rel =>
        refine ⟨k + 1, l ++ [(⟨⟨id, ⟨k, 0, 0⟩, cn, cl, 0, LL⟩, a2, c2⟩ : Fx)], by omega, by go_num, ?_, ?_, ?_⟩
        · rw [HSS.out, List.map_append, HM.out]; rfl
        · exact HF5.out
        · exact C15.out
       case measure => (simp [intOf]; try omega)
   · obtain rfl : k = m + 1 := by omega
     have HM := hid hmap; clear hmap; go_wp2; go_ret
     refine ⟨(ovB O1.out), _, l, rfl, by rw [HM0.out]; exact HM.out, FrsAt.mono HF.out ?_⟩; obtain ⟨z, hz⟩ := O1.out; rw [hz]; simp
end
end Go.Proofs.YtnffcckhdedhpaaGreatDoor
