import Derived.Test.YtnffcckhdedhpaaGreatDoorGB
import Derived.Test.YtnffcckhdedhpaaGreatDoorGC
import Derived.Test.YtnffcckhdedhpaaGreatDoorGA
namespace Go.Proofs.YtnffcckhdedhpaaGreatDoor
set_option linter.unusedVariables false
set_option linter.unusedSimpArgs false
set_option maxRecDepth 100000
set_option maxHeartbeats 2000000
open Go.RowKit
attribute [local go_sem] odr
abbrev RdAt (w : World) (p : Nat) (a : Option Addr) (cap : Nat) (l : List Bool) (at_ e : Int) : Prop := Blk w p [.slice a (pack l).length cap, .int .i64 (l.length : Nat), .int .i64 at_, .int .u16 e] 248
def TkPost (w : World) (p : Nat) (a : Option Addr) (cap : Nat) (l : List Bool) (v : Nat) (n : Int) (e : Nat) (en : Ending) (w' : World) : Prop :=
 en = .returned (.int .u64 (v : Nat)) ∧ ∃ m at', w' = chg [p] w m ∧ RdAt w' p a cap l at' e ∧ (e = 0 → at' = n)
theorem TkPost.mk {w w' : World} {p : Nat} {a : Option Addr} {cap : Nat} {l : List Bool} {v : Nat} {n at' : Int} {e : Nat} (hc : Chg [p] w w') (hB : RdAt w' p a cap l at' e) (h : e = 0 → at' = n) : TkPost w p a cap l v n e (.returned (.int .u64 (v : Nat))) w' := by
 obtain ⟨m, hm⟩ := chg_of hc; exact ⟨rfl, m, at', hm, hB, h⟩
theorem take_err (w : World) (p : Nat) (a : Option Addr) (cap : Nat) (l : List Bool) (at_ : Int) (e : Nat) (he : e ≠ 0) (h : RdAt w p a cap l at_ e) (W : Int) :
    Calls Tryz.prog 146 #[.pointer (some ⟨p, 0, none⟩), .int .i64 W] w (Ret w (.int .u64 0)) := by
  have c3 := h.cell 3 rfl; have hp := h.lt; have he' : ((e : Int) != 0) = true := by simp; exact he
  clear h
  go_enter Tryz.func146, Tryz.ntmps146; go_wp2; go_ret
  exact ⟨ovA, rfl⟩
theorem take_ok (w : World) (p : Nat) (a : Option Addr) (cap : Nat) (l : List Bool) (hl : l.length ≤ 900000) (hb : SlB w a cap (pack l)) (at_ : Int) (hat : -9223372036854775808 ≤ at_ ∧ at_ ≤ 9223372036854775807) (h : RdAt w p a cap l at_ 0) (W : Nat) (hW : W ≤ 64) :
    Calls Tryz.prog 146 #[.pointer (some ⟨p, 0, none⟩), .int .i64 (W : Nat)] w (TkPost w p a cap l (getN l at_ W).1 (at_ + W) (getN l at_ W).2) := by
  have c0 := h.cell 0 rfl; have c1 := h.cell 1 rfl; have c2 := h.cell 2 rfl; have c3 := h.cell 3 rfl; have f2 := h.free 2; have f3 := h.free 3; have hp := h.lt; have H := hid h; clear h; have HG := hid (fun w' hw' => bget_any l hl at_ hat W hW a cap w' hw'); have hok := @getN_ok l at_ W; generalize getN l at_ W = g at *; obtain ⟨v, e⟩ := g; have HG' : Hid (∀ w', SlB w' a cap (pack l) → Calls Tryz.prog 144 #[bv a (pack l).length cap l.length, .int .i64 at_, .int .i64 (W : Nat)] w' (Ret w' (.tuple #[.int .u64 (v : Nat), .int .u16 (e : Nat)]))) := hid (fun w' hw' => HG.out w' hw'); clear HG; obtain ⟨ha1, ha2⟩ := hat; by_cases he : e = 0
  · subst he; have := hok rfl; have ha3 : 0 ≤ at_ := this.1; have ha4 : at_ + W ≤ l.length := this.2.1; clear hok this
    go_enter Tryz.func146, Tryz.ntmps146; go_wp2; refine M2.wrm [10, 17] 17 (by kernel_rfl) (by kernel_rfl) (by decide) ?_; simp only [M2.td]; with_reducible refine M2.mlq 10 (by kernel_rfl) ?_
    simp only [M2.td]; repeat (go_big_quiet_step (fail))
    with_reducible refine wpQuiet_nil ?_
    with_reducible refine M2.mixL_eff (by decide) ?_
    go_wp2_with ((go_at_call 144; (with_reducible refine (HG'.out _ (by exact slA hb)).mono ?_); rintro _ _ ⟨⟨e1, rfl⟩, rfl⟩))
    refine M2.MixQ.mk ovA ?_; with_reducible refine M2.mlq 6 (by kernel_rfl) ?_
    simp only [M2.td]; repeat (go_big_quiet_step (fail))
    with_reducible refine wpQuiet_nil ?_
    with_reducible refine M2.mln ?_
    with_reducible refine M2.mixL_eff (by decide) ?_
    go_wp2_with (fail)
    refine M2.MixQ.mk trivial ?_; with_reducible refine M2.mln ?_
    go_wp2; go_ret
    exact TkPost.mk (by exact chA) (((H.out.set 3 _).set 2 _).on e1) (fun _ => rfl)
  · clear hok
    go_enter Tryz.func146, Tryz.ntmps146; go_wp2; refine M2.wrm [10, 17] 17 (by kernel_rfl) (by kernel_rfl) (by decide) ?_; simp only [M2.td]; with_reducible refine M2.mlq 10 (by kernel_rfl) ?_
    simp only [M2.td]; repeat (go_big_quiet_step (fail))
    with_reducible refine wpQuiet_nil ?_
    with_reducible refine M2.mixL_eff (by decide) ?_
    go_wp2_with ((go_at_call 144; (with_reducible refine (HG'.out _ (by exact slA hb)).mono ?_); rintro _ _ ⟨⟨e1, rfl⟩, rfl⟩))
    refine M2.MixQ.mk ovA ?_; with_reducible refine M2.mlq 6 (by kernel_rfl) ?_
    simp only [M2.td]; repeat (go_big_quiet_step (fail))
    with_reducible refine wpQuiet_nil ?_
    with_reducible refine M2.mln ?_
    with_reducible refine M2.mixL_eff (by decide) ?_
    go_wp2_with (fail)
    refine M2.MixQ.mk trivial ?_; with_reducible refine M2.mln ?_
    go_wp2; go_ret
    exact TkPost.mk (by exact chA) (((H.out.set 3 _).set 2 _).on e1) (fun h => absurd h he)
theorem end_ok (w : World) (p : Nat) (a : Option Addr) (cap : Nat) (l : List Bool) (at_ : Int) (h : RdAt w p a cap l at_ 0) (v : Nat) (s : Vl) :
    Calls Tryz.prog 147 #[.pointer (some ⟨p, 0, none⟩), .int .u64 (v : Nat), s.v] w (Ret w (.tuple #[.int .u64 (v : Nat), .int .i64 at_, s.v, .int .u16 0])) := by
  have c2 := h.cell 2 rfl; have c3 := h.cell 3 rfl; have hp := h.lt; clear h; obtain ⟨has, prev, lead, width⟩ := s
  go_enter Tryz.func147, Tryz.ntmps147; go_wp2; obtain ⟨F, hF⟩ : ∃ F, F = [w.heap.size + 1] := ⟨_, rfl⟩; have n1 : w.heap.size + 1 ∈ F := by rw [hF]; simp
  have n2 : w.heap.size ∉ F := by rw [hF]; simp
  have n3 : p ∉ F := by rw [hF]; simp; omega
  clear hF; refine M2.wrz (fun w' => ∃ m : Mut, w' = chg F _ m) [8] 10 (by kernel_rfl) (by kernel_rfl) (by decide) (chg_of (Chg.refl _ _)) ?_; simp only [M2.td]; with_reducible refine M2.mlq 8 (by kernel_rfl) ?_
  simp only [M2.td]; repeat (go_big_quiet_step (fail))
  with_reducible refine wpQuiet_nil ?_
  with_reducible refine M2.mixL_eff (by decide) ?_
  go_wp2_with (fail)
  refine M2.MixQ.mk (chg_of (by exact chA)) ?_; with_reducible refine M2.mlq 1 (by kernel_rfl) ?_
  simp only [M2.td]; repeat (go_big_quiet_step (fail))
  with_reducible refine wpQuiet_nil ?_
  with_reducible refine M2.mln ?_
  with_reducible refine M2.mln ?_
  go_wp2
  (try simp only [Exit.inBlock, Exit.then])
  refine bodyPost_ret (v := ?rv29) ?rh29 rfl ?rp29
  case rh29 => (simp only [results, show Tryz.f147.results = #[.tmp 6, .tmp 7, .cell 8 109, .tmp 9] from rfl]; go_simp; rfl)
  exact ⟨ovA, rfl⟩
theorem end_err (w : World) (p : Nat) (a : Option Addr) (cap : Nat) (l : List Bool) (at_ : Int) (e : Nat) (he : e ≠ 0) (h : RdAt w p a cap l at_ e) (v : Nat) (s : Vl) :
    Calls Tryz.prog 147 #[.pointer (some ⟨p, 0, none⟩), .int .u64 (v : Nat), s.v] w (Ret w (.tuple #[.int .u64 0, .int .i64 0, Vl.zero.v, .int .u16 (e : Nat)])) := by
  have c3 := h.cell 3 rfl; have hp := h.lt; have he' : ((e : Int) != 0) = true := by simp; exact he
  clear h; obtain ⟨has, prev, lead, width⟩ := s
  go_enter Tryz.func147, Tryz.ntmps147; go_wp2; obtain ⟨F, hF⟩ : ∃ F, F = [w.heap.size + 1] := ⟨_, rfl⟩; have n1 : w.heap.size + 1 ∈ F := by rw [hF]; simp
  have n2 : w.heap.size ∉ F := by rw [hF]; simp
  have n3 : p ∉ F := by rw [hF]; simp; omega
  clear hF; refine M2.wrz (fun w' => ∃ m : Mut, w' = chg F _ m) [7] 9 (by kernel_rfl) (by kernel_rfl) (by decide) (chg_of (Chg.refl _ _)) ?_; simp only [M2.td]; with_reducible refine M2.mlq 7 (by kernel_rfl) ?_
  simp only [M2.td]; repeat (go_big_quiet_step (fail))
  with_reducible refine wpQuiet_nil ?_
  with_reducible refine M2.mixL_eff (by decide) ?_
  go_wp2_with (fail)
  refine M2.MixQ.mk (chg_of (by exact chA)) ?_; with_reducible refine M2.mlq 1 (by kernel_rfl) ?_
  simp only [M2.td]; repeat (go_big_quiet_step (fail))
  with_reducible refine wpQuiet_nil ?_
  with_reducible refine M2.mln ?_
  with_reducible refine M2.mln ?_
  go_wp2
  (try simp only [Exit.inBlock, Exit.then])
  refine bodyPost_ret (v := ?rv30) ?rh30 rfl ?rp30
  case rh30 => (simp only [results, show Tryz.f147.results = #[.tmp 6, .tmp 7, .cell 8 109, .tmp 9] from rfl]; go_simp; rfl)
  exact ⟨ovA, rfl⟩
end Go.Proofs.YtnffcckhdedhpaaGreatDoor
