import Derived.Test.YtnihngljmmbenaaGreatDoorBitZ
import Derived.Test.YtnihngljmmbenaaGreatDoorGC
import Derived.LaidMore
import Derived.Stop.Joined
import Derived.Lib.SmallJoins
import Derived.Test.YtnihngljmmbenaaGreatDoorGF
namespace Go.Proofs.YtnihngljmmbenaaGreatDoor
set_option linter.unusedVariables false
set_option linter.unusedSimpArgs false
section
open Go.RowKit Go.ChangeShapes Go.WideShapes Go.ChangeAt

theorem ownKnob0 : ownKnob Tryz.prog.godebug = none := by kernel_rfl
theorem laidOut0 : laidOutB Tryz.prog = true := by kernel_rfl
theorem below_of_over {w w' : World} (h : ∃ e, w' = over w e) : Below w.heap.size w w' := by
  obtain ⟨e, rfl⟩ := h; exact below_over w e

abbrev laidT : List (String × DataW Unit) := [("math/bits.deBruijn64tab", Rows.laid_math_bits_deBruijn64tab)]
theorem gTab : Tryz.prog.globalNamed "math/bits.deBruijn64tab" = some 0 := by kernel_rfl
theorem tTab : (Tryz.prog.globals[0]?).map (·.type) = some 301 := by kernel_rfl
theorem cTab : Tryz.prog.cellsOf 301 = 64 := by kernel_rfl
theorem cByte : Tryz.prog.cellsOf 5 = 1 := by kernel_rfl

theorem door_met (os : Os) (args : Array Value) : laidMetH Tryz.prog laidT ((World.doorLaid Tryz.prog 400 os).forCall (fun _ _ => 0) ⟨#[], args, []⟩).memory :=
  laidMetH_of_parts3 (fuel := 8) (laidMet_of_run' 8 (by kernel_rfl) (by kernel_rfl)) (by kernel_rfl) (by kernel_rfl)

theorem tab_list : (Rows.laid_math_bits_deBruijn64tab : DataW Unit) = .agg (Lib.deBruijn64tab.map fun n => .lit (.int .u8 (n : Nat))) := rfl

theorem tab_of_laid {W : World} (h : laidMetH Tryz.prog laidT W) : TabW W := by
  rw [MakeChecks.laidMetH_plain _ _ _ (by kernel_rfl)] at h
  obtain ⟨ps, ⟨g0, t0, cs0, f0, p0, q0, hg0, ht0, hv0, hd0, _, _⟩, _, _⟩ := h
  obtain rfl := Option.some.inj (gTab.symm.trans hg0)
  obtain rfl := Option.some.inj (tTab.symm.trans ht0)
  obtain ⟨xs, m1, rfl, hx1, hlen, hn, hel⟩ := DataW.trod_array Tryz.underlying301 hd0
  rw [tab_list] at hx1
  simp only [Prod.mk.injEq, DataW.agg.injEq] at hx1
  rw [cTab] at hlen
  have hall : ∀ j, j < 64 → W.cell? ⟨0, j, none⟩ = some (.int .u8 (Lib.deBruijn64tab.getD j 0 : Nat)) := by
    intro j hj
    have h1 := hel j hj
    rw [cByte, Nat.mul_one] at h1
    have hjx : j < xs.length := by omega
    rw [List.getElem?_eq_getElem hjx] at h1
    obtain ⟨k, e1, e2, _⟩ := DataW.trod_int Tryz.underlying5 h1
    have hk : (xs.map (·.1))[j]? = some (DataW.lit (.int .u8 k)) := by rw [List.getElem?_map, List.getElem?_eq_getElem hjx, e2]; rfl
    have hjt : j < Lib.deBruijn64tab.length := by simpa [Lib.deBruijn64tab] using hj
    rw [← hx1.1, List.getElem?_map, List.getElem?_eq_getElem hjt] at hk
    have hk' : (Lib.deBruijn64tab[j] : Int) = k := by simpa using hk
    have hc := World.var?_cell hg0 hv0 j
    rw [hc]
    have hj0 : cs0.toList[j]? = some (.int .u8 k) := by
      have := congrArg List.head? e1
      rw [List.head?_take, List.head?_drop] at this
      simpa using this
    rw [← Array.getElem?_toList, hj0, ← hk', List.getD_eq_getElem?_getD, List.getElem?_eq_getElem hjt]; rfl
  refine ⟨?_, hall⟩
  exact World.block_lt_of_cell? W _ (hall 0 (by decide))

/-! ### Arguments -/

section
variable {H : Type} {enc : TypeId × Value → H} {W : World} {spare : Nat → Bool} {held : Bool}
end
end
section
open Go.RowKit Go.ChangeShapes Go.WideShapes Go.ChangeAt

inductive Kd where
  | b
  | i (k : IntKind)
  | s (t : TypeId)
def okLeafK (R : TypeId → Value → Prop) : Kd → Value → Prop
  | .i k, v => ∃ n, v = .int k n ∧ (Lit.int k n).wf = true
  | .b, v => ∃ b, v = .bool b
  | .s t, v => ∃ a l c, v = .slice a l c ∧ R t v
def okAllK (R : TypeId → Value → Prop) : List Kd → List Value → Prop
  | [], [] => True
  | k :: ks, v :: vs => okLeafK R k v ∧ okAllK R ks vs
  | _, _ => False
def flatFsK (g : TypeId → Option (List Kd)) (size : TypeId → Nat) : Nat → List Field → Option (List Kd)
  | _, [] => some []
  | off, f :: fs =>
    match g f.type, flatFsK g size (off + size f.type) fs with
    | some l, some r => if f.offset = off ∧ size f.type = l.length then some (l ++ r) else none
    | _, _ => none
def flatK (P : Program) : Nat → TypeId → Option (List Kd)
  | 0, _ => none
  | d + 1, t =>
    match P.underlying t with
    | some (.int k) => some [.i k]
    | some .bool => some [.b]
    | some (.slice _) => some [.s t]
    | some (.struct fs) =>
      match flatFsK (flatK P d) P.cellsOf 0 fs.toList with
      | some l => if P.cellsOf t = l.length then some l else none
      | none => none
    | _ => none
section
variable {H : Type} {enc : TypeId × Value → H} {P : Program} {w : World} {base : Nat} {spare : Nat → Bool} {held : Bool}
def RdK (enc : TypeId × Value → H) (P : Program) (w : World) (base : Nat) (spare : Nat → Bool) (held : Bool) (t : TypeId) (v : Value) : Prop := ∃ n y, DataW.trod enc P w base spare held n t [v] = some y
end
end
section
open Go.RowKit Go.ChangeShapes Go.WideShapes Go.ChangeAt

section
variable {H : Type} {enc : TypeId × Value → H} {W : World} {spare : Nat → Bool} {held : Bool}
end
end
section
open Go.RowKit Go.ChangeShapes Go.WideShapes Go.ChangeAt

structure Opr where
  v0 : Value
  id : Nat
  x : Sm
  v4 : Value
  v5 : Value
  v6 : Value
  v7 : Value
  v8 : Value
  v9 : Value
  v10 : Value
  v11 : Value
  v12 : Value
  ba : Option Addr
  bn : Nat
  bc : Nat
  v14 : Value
  v15 : Value
  v16 : Value
def Opr.cs (o : Opr) : List Value := [o.v0, .int .u32 (o.id : Nat), .int .i64 o.x.t, .int .u64 (o.x.v : Nat), o.v4, o.v5, o.v6, o.v7, o.v8, o.v9, o.v10, o.v11, o.v12, .slice o.ba o.bn o.bc, o.v14, o.v15, o.v16]
instance : Inhabited Opr := ⟨⟨.bool false, 0, ⟨0, 0⟩, .bool false, .bool false, .bool false, .bool false, .bool false, .bool false, .bool false, .bool false, .bool false, none, 0, 0, .bool false, .bool false, .bool false⟩⟩
def Opr.wf (o : Opr) : Prop := o.id < 4294967296 ∧ o.x.wf
theorem Opr.cs_len (o : Opr) : o.cs.length = 17 := rfl
theorem u32_nat {n : Int} (h : (Lit.int .u32 n).wf = true) : ∃ m : Nat, n = m ∧ m < 4294967296 := by
  have := bounds_u32 h
  exact ⟨n.toNat, by omega, by omega⟩
section
variable {H : Type} {enc : TypeId × Value → H} {W : World} {spare : Nat → Bool} {held : Bool}
end
end
end Go.Proofs.YtnihngljmmbenaaGreatDoor
