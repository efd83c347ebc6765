/- What the rows of this seat share: the laid table, arguments opened. -/
import Derived.Test.YthljlajdkdgieaaDoorBitZ
import Derived.Test.YthljlajdkdgieaaDoorGC
import Derived.LaidMore
import Derived.Stop.Joined
import Derived.Lib.SmallJoins
namespace Go.Proofs.YthljlajdkdgieaaDoor
set_option linter.unusedVariables false
set_option linter.unusedSimpArgs false
open Go.RowKit Go.ChangeShapes Go.WideShapes Go.ChangeAt

theorem ownKnob0 : ownKnob Tryd.prog.godebug = none := by kernel_rfl
theorem laidOut0 : laidOutB Tryd.prog = true := by kernel_rfl
theorem below_of_over {w w' : World} (h : ∃ e, w' = over w e) : Below w.heap.size w w' := by
  obtain ⟨e, rfl⟩ := h; exact below_over w e

abbrev laidT : List (String × DataW Unit) := [("math/bits.deBruijn64tab", Rows.laid_math_bits_deBruijn64tab)]
theorem gTab : Tryd.prog.globalNamed "math/bits.deBruijn64tab" = some 0 := by kernel_rfl
theorem tTab : (Tryd.prog.globals[0]?).map (·.type) = some 154 := by kernel_rfl
theorem cTab : Tryd.prog.cellsOf 154 = 64 := by kernel_rfl
theorem cByte : Tryd.prog.cellsOf 5 = 1 := by kernel_rfl

/-- The door's own heap meets the condition. -/
theorem door_met (os : Os) (args : Array Value) : laidMetH Tryd.prog laidT ((World.doorLaid Tryd.prog 400 os).forCall (fun _ _ => 0) ⟨#[], args, []⟩).memory :=
  laidMetH_of_parts3 (fuel := 8) (laidMet_of_run' 8 (by kernel_rfl) (by kernel_rfl)) (by kernel_rfl) (by kernel_rfl)

theorem tab_list : (Rows.laid_math_bits_deBruijn64tab : DataW Unit) = .agg (Lib.deBruijn64tab.map fun n => .lit (.int .u8 (n : Nat))) := rfl

theorem tab_of_laid {W : World} (h : laidMetH Tryd.prog laidT W) : TabW W := by
  rw [MakeChecks.laidMetH_plain _ _ _ (by kernel_rfl)] at h
  obtain ⟨ps, ⟨g0, t0, cs0, f0, p0, q0, hg0, ht0, hv0, hd0, _, _⟩, _, _⟩ := h
  obtain rfl := Option.some.inj (gTab.symm.trans hg0)
  obtain rfl := Option.some.inj (tTab.symm.trans ht0)
  obtain ⟨xs, m1, rfl, hx1, hlen, hn, hel⟩ := DataW.trod_array Tryd.underlying154 hd0
  rw [tab_list] at hx1
  simp only [Prod.mk.injEq, DataW.agg.injEq] at hx1
  rw [cTab] at hlen
  have hall : ∀ j, j < 64 → W.cell? ⟨0, j, none⟩ = some (.int .u8 (Lib.deBruijn64tab.getD j 0 : Nat)) := by
    intro j hj
    have h1 := hel j hj
    rw [cByte, Nat.mul_one] at h1
    have hjx : j < xs.length := by omega
    rw [List.getElem?_eq_getElem hjx] at h1
    obtain ⟨k, e1, e2, _⟩ := DataW.trod_int Tryd.underlying5 h1
    have hk : (xs.map (·.1))[j]? = some (DataW.lit (.int .u8 k)) := by rw [List.getElem?_map, List.getElem?_eq_getElem hjx, e2]; rfl
    have hjt : j < Lib.deBruijn64tab.length := by simpa [Lib.deBruijn64tab] using hj
    rw [← hx1.1, List.getElem?_map, List.getElem?_eq_getElem hjt] at hk
    have hk' : (Lib.deBruijn64tab[j] : Int) = k := by simpa using hk
    have hc := World.var?_cell hg0 hv0 j
    rw [hc]
    have hj0 : cs0.toList[j]? = some (.int .u8 k) := by
      have := congrArg List.head? e1
      rw [List.head?_take, List.head?_drop] at this
      simpa using this
    rw [← Array.getElem?_toList, hj0, ← hk', List.getD_eq_getElem?_getD, List.getElem?_eq_getElem hjt]; rfl
  refine ⟨?_, hall⟩
  exact World.block_lt_of_cell? W _ (hall 0 (by decide))

/-! ### Arguments -/

theorem u8_nat {n : Int} (h : (Lit.int .u8 n).wf = true) : ∃ m : Nat, n = m ∧ m < 256 := by
  have := bounds_u8 h
  exact ⟨n.toNat, by omega, by omega⟩
theorem u64_nat {n : Int} (h : (Lit.int .u64 n).wf = true) : ∃ m : Nat, n = m ∧ m < 18446744073709551616 := by
  have := bounds_u64 h
  exact ⟨n.toNat, by omega, by omega⟩

theorem byte_dec (cs : List Value) (h : okAll [some .u8] cs) : ∃ x : Nat, x < 256 ∧ bcs x = cs := by
  have hl := okAll_length _ _ h
  match cs, hl with
  | [v0], _ =>
    obtain ⟨⟨k, rfl, hk⟩, _⟩ := h
    obtain ⟨m, rfl, hm⟩ := u8_nat hk
    exact ⟨m, hm, rfl⟩
theorem val_dec (cs : List Value) (h : okAll [none, some .u64, some .u8, some .u8] cs) : ∃ s : Vl, s.wf ∧ cs = [.bool s.has, .int .u64 (s.prev : Nat), .int .u8 (s.lead : Nat), .int .u8 (s.width : Nat)] := by
  have hl := okAll_length _ _ h
  match cs, hl with
  | [v0, v1, v2, v3], _ =>
    obtain ⟨⟨b, rfl⟩, ⟨p, rfl, hp⟩, ⟨l, rfl, hl⟩, ⟨k, rfl, hk⟩, _⟩ := h
    obtain ⟨p, rfl, hp'⟩ := u64_nat hp
    obtain ⟨l, rfl, hl'⟩ := u8_nat hl
    obtain ⟨k, rfl, hk'⟩ := u8_nat hk
    exact ⟨⟨b, p, l, k⟩, ⟨hp', hl', hk'⟩, rfl⟩

section
variable {H : Type} {enc : TypeId × Value → H} {W : World} {spare : Nat → Bool} {held : Bool}
set_option maxRecDepth 100000 in
theorem open_val {v : Value} {y : DataW H} {ps : List MemPlace} {base : Nat} {r : Reach} (hv : Value.okWide Tryd.prog W r base 24 v) {b : Nat} (h : DataW.Trod enc Tryd.prog W b spare held 24 v y ps) : ∃ s : Vl, s.wf ∧ v = s.v := by
  obtain ⟨cs, rfl, _⟩ := okWide_struct Tryd.underlying24 hv
  have h1 := open_flat (d := 5) (ks := [none, some .u64, some .u8, some .u8]) (by kernel_rfl) h
  obtain ⟨s, hs, he⟩ := val_dec _ h1
  refine ⟨s, hs, ?_⟩
  have : cs = #[.bool s.has, .int .u64 (s.prev : Nat), .int .u8 (s.lead : Nat), .int .u8 (s.width : Nat)] := by
    apply Array.ext'
    rw [← show cs.toList = _ from he]
  rw [this]

theorem bits_cells : Tryd.prog.cellsOf 29 = 2 := by kernel_rfl
set_option maxRecDepth 100000 in
theorem open_bits {v : Value} {y : DataW H} {ps : List MemPlace} {base : Nat} {r : Reach} (hv : Value.okWide Tryd.prog W r base 29 v) {b : Nat} (h : DataW.Trod enc Tryd.prog W b spare held 29 v y ps) :
    ∃ (bs : List Nat) (N : Int) (a : Option Addr) (cap : Nat), v = bv a bs.length cap N ∧ (∀ x ∈ bs, x < 256) ∧ SlB W a cap bs ∧ (-9223372036854775808 ≤ N ∧ N ≤ 9223372036854775807) := by
  obtain ⟨c0, c1, y0, y1, m, rfl, rfl, rfl, h0, h1⟩ := Go.Joins.open_agg2 Tryd.underlying29 (by kernel_rfl) bits_cells hv h
  obtain ⟨a, l, c, e0⟩ := Go.Joins.slice_form Tryd.underlying27 h0
  obtain ⟨N, e1, _, hN⟩ := DataW.trod_int Tryd.underlying3 h1
  simp only [List.cons.injEq, and_true] at e0 e1
  subst e0 e1
  obtain ⟨bs, hl, hs, hb⟩ := open_sl (sz := 1) (cells := bcs) (d := 3) (ks := [some .u8]) (e := 5) (ok := fun x => x < 256) byte_dec (by decide) (by kernel_rfl) (by kernel_rfl) Tryd.underlying27 (⟨m, h0⟩ : DataW.Trod enc Tryd.prog W b spare held 27 (.slice a l c) y0.1 y0.2)
  subst hl
  have := bounds_i64 hN
  exact ⟨bs, N, a, c, rfl, hb, hs, by omega⟩
theorem u64_dec (cs : List Value) (h : okAll [some .u64] cs) : ∃ x : Nat, x < 18446744073709551616 ∧ [Value.int .u64 (x : Nat)] = cs := by
  have hl := okAll_length _ _ h
  match cs, hl with
  | [v0], _ =>
    obtain ⟨⟨k, rfl, hk⟩, _⟩ := h
    obtain ⟨m, rfl, hm⟩ := u64_nat hk
    exact ⟨m, hm, rfl⟩
theorem open_u64s {a : Option Addr} {n cap : Nat} {y : DataW H} {ps : List MemPlace} {base : Nat} (h : DataW.Trod enc Tryd.prog W base spare held 59 (.slice a n cap) y ps) : ∃ xs : List Nat, xs.length = n ∧ Sl 1 (fun x : Nat => [Value.int .u64 (x : Nat)]) W a cap xs ∧ ∀ x ∈ xs, x < 18446744073709551616 :=
  open_sl (d := 3) (ks := [some .u64]) (e := 22) u64_dec (by decide) (by kernel_rfl) (by kernel_rfl) Tryd.underlying59 h
end
end Go.Proofs.YthljlajdkdgieaaDoor
