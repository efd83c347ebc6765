import Derived.Test.YtnihngljmmbenaaGreatDoorBitZ
import Derived.Test.YtnihngljmmbenaaGreatDoorGC
import Derived.LaidMore
import Derived.Stop.Joined
import Derived.Lib.SmallJoins
import Derived.Test.YtnihngljmmbenaaGreatDoorGF
namespace Go.Proofs.YtnihngljmmbenaaGreatDoor
set_option linter.unusedVariables false
set_option linter.unusedSimpArgs false
section
open Go.RowKit Go.ChangeShapes Go.WideShapes Go.ChangeAt

theorem ownKnob0 : ownKnob Tryz.prog.godebug = none := by kernel_rfl
theorem laidOut0 : laidOutB Tryz.prog = true := by kernel_rfl
theorem below_of_over {w w' : World} (h : ∃ e, w' = over w e) : Below w.heap.size w w' := by
  obtain ⟨e, rfl⟩ := h; exact below_over w e

abbrev laidT : List (String × DataW Unit) := [("math/bits.deBruijn64tab", Rows.laid_math_bits_deBruijn64tab)]
theorem gTab : Tryz.prog.globalNamed "math/bits.deBruijn64tab" = some 0 := by kernel_rfl
theorem tTab : (Tryz.prog.globals[0]?).map (·.type) = some 301 := by kernel_rfl
theorem cTab : Tryz.prog.cellsOf 301 = 64 := by kernel_rfl
theorem cByte : Tryz.prog.cellsOf 5 = 1 := by kernel_rfl

theorem door_met (os : Os) (args : Array Value) : laidMetH Tryz.prog laidT ((World.doorLaid Tryz.prog 400 os).forCall (fun _ _ => 0) ⟨#[], args, []⟩).memory :=
  laidMetH_of_parts3 (fuel := 8) (laidMet_of_run' 8 (by kernel_rfl) (by kernel_rfl)) (by kernel_rfl) (by kernel_rfl)

theorem tab_list : (Rows.laid_math_bits_deBruijn64tab : DataW Unit) = .agg (Lib.deBruijn64tab.map fun n => .lit (.int .u8 (n : Nat))) := rfl

theorem tab_of_laid {W : World} (h : laidMetH Tryz.prog laidT W) : TabW W := by
  rw [MakeChecks.laidMetH_plain _ _ _ (by kernel_rfl)] at h
  obtain ⟨ps, ⟨g0, t0, cs0, f0, p0, q0, hg0, ht0, hv0, hd0, _, _⟩, _, _⟩ := h
  obtain rfl := Option.some.inj (gTab.symm.trans hg0)
  obtain rfl := Option.some.inj (tTab.symm.trans ht0)
  obtain ⟨xs, m1, rfl, hx1, hlen, hn, hel⟩ := DataW.trod_array Tryz.underlying301 hd0
  rw [tab_list] at hx1
  simp only [Prod.mk.injEq, DataW.agg.injEq] at hx1
  rw [cTab] at hlen
  have hall : ∀ j, j < 64 → W.cell? ⟨0, j, none⟩ = some (.int .u8 (Lib.deBruijn64tab.getD j 0 : Nat)) := by
    intro j hj
    have h1 := hel j hj
    rw [cByte, Nat.mul_one] at h1
    have hjx : j < xs.length := by omega
    rw [List.getElem?_eq_getElem hjx] at h1
    obtain ⟨k, e1, e2, _⟩ := DataW.trod_int Tryz.underlying5 h1
    have hk : (xs.map (·.1))[j]? = some (DataW.lit (.int .u8 k)) := by rw [List.getElem?_map, List.getElem?_eq_getElem hjx, e2]; rfl
    have hjt : j < Lib.deBruijn64tab.length := by simpa [Lib.deBruijn64tab] using hj
    rw [← hx1.1, List.getElem?_map, List.getElem?_eq_getElem hjt] at hk
    have hk' : (Lib.deBruijn64tab[j] : Int) = k := by simpa using hk
    have hc := World.var?_cell hg0 hv0 j
    rw [hc]
    have hj0 : cs0.toList[j]? = some (.int .u8 k) := by
      have := congrArg List.head? e1
      rw [List.head?_take, List.head?_drop] at this
      simpa using this
    rw [← Array.getElem?_toList, hj0, ← hk', List.getD_eq_getElem?_getD, List.getElem?_eq_getElem hjt]; rfl
  refine ⟨?_, hall⟩
  exact World.block_lt_of_cell? W _ (hall 0 (by decide))

/-! ### Arguments -/

theorem u8_nat {n : Int} (h : (Lit.int .u8 n).wf = true) : ∃ m : Nat, n = m ∧ m < 256 := by
  have := bounds_u8 h
  exact ⟨n.toNat, by omega, by omega⟩
theorem u64_nat {n : Int} (h : (Lit.int .u64 n).wf = true) : ∃ m : Nat, n = m ∧ m < 18446744073709551616 := by
  have := bounds_u64 h
  exact ⟨n.toNat, by omega, by omega⟩

section
variable {H : Type} {enc : TypeId × Value → H} {W : World} {spare : Nat → Bool} {held : Bool}
end
end
section
open Go.RowKit Go.ChangeShapes Go.WideShapes Go.ChangeAt

inductive Kd where
  | b
  | i (k : IntKind)
  | s (t : TypeId)
def okLeafK (R : TypeId → Value → Prop) : Kd → Value → Prop
  | .i k, v => ∃ n, v = .int k n ∧ (Lit.int k n).wf = true
  | .b, v => ∃ b, v = .bool b
  | .s t, v => ∃ a l c, v = .slice a l c ∧ R t v
def okAllK (R : TypeId → Value → Prop) : List Kd → List Value → Prop
  | [], [] => True
  | k :: ks, v :: vs => okLeafK R k v ∧ okAllK R ks vs
  | _, _ => False
theorem okAllK_append {R : TypeId → Value → Prop} : ∀ (ks js : List Kd) (vs us : List Value), okAllK R ks vs → okAllK R js us → okAllK R (ks ++ js) (vs ++ us)
  | [], _, [], _, _, h => h
  | _ :: ks, js, _ :: vs, us, h, h' => ⟨h.1, okAllK_append ks js vs us h.2 h'⟩
  | [], _, _ :: _, _, h, _ => h.elim
  | _ :: _, _, [], _, h, _ => h.elim
theorem okAllK_length {R : TypeId → Value → Prop} : ∀ (ks : List Kd) (vs : List Value), okAllK R ks vs → vs.length = ks.length
  | [], [], _ => rfl
  | _ :: ks, _ :: vs, h => by simp [okAllK_length ks vs h.2]
  | [], _ :: _, h => h.elim
  | _ :: _, [], h => h.elim
def flatFsK (g : TypeId → Option (List Kd)) (size : TypeId → Nat) : Nat → List Field → Option (List Kd)
  | _, [] => some []
  | off, f :: fs =>
    match g f.type, flatFsK g size (off + size f.type) fs with
    | some l, some r => if f.offset = off ∧ size f.type = l.length then some (l ++ r) else none
    | _, _ => none
def flatK (P : Program) : Nat → TypeId → Option (List Kd)
  | 0, _ => none
  | d + 1, t =>
    match P.underlying t with
    | some (.int k) => some [.i k]
    | some .bool => some [.b]
    | some (.slice _) => some [.s t]
    | some (.struct fs) =>
      match flatFsK (flatK P d) P.cellsOf 0 fs.toList with
      | some l => if P.cellsOf t = l.length then some l else none
      | none => none
    | _ => none
section
variable {H : Type} {enc : TypeId × Value → H} {P : Program} {w : World} {base : Nat} {spare : Nat → Bool} {held : Bool}
def RdK (enc : TypeId × Value → H) (P : Program) (w : World) (base : Nat) (spare : Nat → Bool) (held : Bool) (t : TypeId) (v : Value) : Prop := ∃ n y, DataW.trod enc P w base spare held n t [v] = some y
theorem okAllK_fields {g : TypeId → Option (List Kd)} {n : Nat} {cs : List Value}
    (hg : ∀ t ks c x, g t = some ks → DataW.trod enc P w base spare held n t c = some x → okAllK (RdK enc P w base spare held) ks c) :
    ∀ (fs : List Field) (off : Nat) (ks : List Kd), flatFsK g P.cellsOf off fs = some ks → off + ks.length = cs.length →
      (∀ f ∈ fs, ∃ x, DataW.trod enc P w base spare held n f.type ((cs.drop f.offset).take (P.cellsOf f.type)) = some x) → okAllK (RdK enc P w base spare held) ks (cs.drop off)
  | [], off, ks, h, hl, _ => by
    simp [flatFsK] at h
    subst h
    rw [List.drop_of_length_le (by simp at hl; omega)]
    trivial
  | f :: fs, off, ks, h, hl, hx => by
    unfold flatFsK at h
    split at h
    · rename_i l r e1 e2
      split at h
      · rename_i hc
        obtain ⟨h1, h2⟩ := hc
        obtain rfl := (Option.some.inj h).symm
        obtain ⟨x, hxx⟩ := hx f (by simp)
        have o1 := hg _ _ _ _ e1 hxx
        have o2 := okAllK_fields hg fs (off + P.cellsOf f.type) r e2 (by rw [List.length_append] at hl; omega) (fun f' hf' => hx f' (by simp [hf']))
        rw [h1] at o1
        have e : cs.drop off = (cs.drop off).take (P.cellsOf f.type) ++ cs.drop (off + P.cellsOf f.type) := by
          rw [← List.drop_drop, List.take_append_drop]
        rw [e]
        exact okAllK_append _ _ _ _ o1 o2
      · cases h
    · cases h

theorem flat_trodK : ∀ (d : Nat) (t : TypeId) (ks : List Kd) (fuel : Nat) (cs : List Value) (x : DataW H × List MemPlace), flatK P d t = some ks →
    DataW.trod enc P w base spare held fuel t cs = some x → okAllK (RdK enc P w base spare held) ks cs
  | 0, _, _, _, _, _, h, _ => by simp [flatK] at h
  | d + 1, t, ks, fuel, cs, x, h, hx => by
    unfold flatK at h
    split at h
    · rename_i k hu
      obtain rfl := (Option.some.inj h).symm
      obtain ⟨n, rfl, _, hw⟩ := DataW.trod_int hu hx
      exact ⟨⟨n, rfl, hw⟩, trivial⟩
    · rename_i hu
      obtain rfl := (Option.some.inj h).symm
      obtain ⟨b, rfl, _⟩ := DataW.trod_bool hu hx
      exact ⟨⟨b, rfl⟩, trivial⟩
    · rename_i e hu
      obtain rfl := (Option.some.inj h).symm
      obtain ⟨a, l, c, rfl⟩ := Go.Joins.slice_form hu hx
      exact ⟨⟨a, l, c, rfl, fuel, x, hx⟩, trivial⟩
    · rename_i fs hu
      split at h
      · rename_i l hl'
        split at h
        · rename_i hc
          obtain rfl := (Option.some.inj h).symm
          obtain ⟨xs, n, _, _, hl, hlen, hf⟩ := DataW.trod_struct hu hx
          have := okAllK_fields (cs := cs) (n := n) (g := flatK P d) (fun t' ks' c x' hg' hx' => flat_trodK d t' ks' n c x' hg' hx') fs.toList 0 _ hl' (by rw [Nat.zero_add, hl, hc])
            (fun f hf' => by
              obtain ⟨i, hi, rfl⟩ := List.mem_iff_getElem.1 hf'
              have hi' : i < fs.size := by simpa using hi
              have := hf i fs[i] (by simp [hi'])
              rw [List.getElem?_eq_getElem (by omega)] at this
              exact ⟨_, by simpa using this⟩)
          simpa using this
        · cases h
      · cases h
    · cases h

open Go.Deep in
theorem open_slK {α : Type} [Inhabited α] {sz : Nat} {cells : α → List Value} {ok : α → Prop} {d : Nat} {t e : TypeId} {ks : List Kd} {y : DataW H} {ps : List MemPlace} {a : Option Addr} {n cap : Nat}
    (dec : ∀ cs, okAllK (RdK enc P w base spare held) ks cs → ∃ x : α, ok x ∧ cells x = cs) (hpos : 0 < sz) (hf : flatK P d e = some ks) (hsz : P.cellsOf e = sz) (ht : P.underlying t = some (.slice e)) (h : DataW.Trod enc P w base spare held t (.slice a n cap) y ps) :
    ∃ xs : List α, xs.length = n ∧ Sl sz cells w a cap xs ∧ ∀ x ∈ xs, ok x := by
  obtain ⟨fuel, hx⟩ := h
  rcases open_slice ht hx with ⟨hcs, _⟩ | ⟨ad, len, cap', m, n', D, Pl, hcs, _, hl, hm, hmm, _, hi⟩
  · simp [Value.cells] at hcs
    obtain ⟨rfl, rfl, rfl⟩ := hcs
    exact ⟨[], rfl, Sl.nil w, by simp⟩
  · simp [Value.cells] at hcs
    obtain ⟨rfl, rfl, rfl⟩ := hcs
    have hle : n ≤ m := by rw [hmm]; split <;> omega
    have one : ∀ i, i < n → ∃ x : α, ok x ∧ ∃ b off, some ad = some ⟨b, off, none⟩ ∧ b < w.heap.size ∧ ∀ j u, (cells x)[j]? = some u → w.cell? ⟨b, off + i * sz + j, none⟩ = some u := by
      intro i hi'
      obtain ⟨cs', h1, h2⟩ := hi i (by omega)
      have hok := flat_trodK d e ks n' cs' _ hf h2
      obtain ⟨x, hx1, hx2⟩ := dec cs' hok
      obtain ⟨_, hlen, hcell⟩ := World.cells?_some h1
      rw [hsz] at hcell hlen
      have h0 : 0 < cs'.length := by omega
      have hfirst := hcell 0 (by omega)
      rw [List.getElem?_eq_getElem h0] at hfirst
      obtain ⟨b, off, spot⟩ := ad
      have hb := World.block_lt_of_cell? w _ hfirst
      have hspot : spot = none := by
        obtain ⟨cs0, g1, g2⟩ := hi 0 (by omega)
        obtain ⟨_, hlen0, hcell0⟩ := World.cells?_some g1
        rw [hsz] at hlen0 hcell0
        have := hcell0 0 (by omega)
        rw [List.getElem?_eq_getElem (by omega)] at this
        have := World.cell?_spot this
        simpa [Addr.add] using this
      subst hspot
      refine ⟨x, hx1, b, off, rfl, ?_, fun j u hu => ?_⟩
      · simp only [Addr.add] at hb; split at hb <;> split at hb <;> exact hb
      · have hj : j < (cells x).length := by
          rcases Nat.lt_or_ge j (cells x).length with h | h
          · exact h
          · rw [List.getElem?_eq_none h] at hu; cases hu
        rw [hx2] at hj hu
        have := hcell j (by omega)
        rw [Go.WideShapes.add_plain, Go.WideShapes.add_plain] at this
        rw [this, hu]
    obtain ⟨f, hfn⟩ := choose_lt one
    refine ⟨(List.range n).map f, by simp, ⟨by simpa using hl, hm, (fun h => nomatch h), fun i x hx' => ?_⟩, fun x hx' => ?_⟩
    · have hi' : i < n := by
        rcases Nat.lt_or_ge i n with h | h
        · exact h
        · simp [h] at hx'
      simp [hi'] at hx'
      subst hx'
      exact (hfn i hi').2
    · obtain ⟨i, hi', rfl⟩ := List.mem_map.1 hx'
      exact (hfn i (List.mem_range.1 hi')).1
end
end
section
open Go.RowKit Go.ChangeShapes Go.WideShapes Go.ChangeAt

theorem i64_ok {n : Int} (h : (Lit.int .i64 n).wf = true) : i64ok n := by
  have := bounds_i64 h
  unfold i64ok; omega
section
variable {H : Type} {enc : TypeId × Value → H} {W : World} {spare : Nat → Bool} {held : Bool}
end
end
section
open Go.RowKit Go.ChangeShapes Go.WideShapes Go.ChangeAt

structure Opr where
  v0 : Value
  id : Nat
  x : Sm
  v4 : Value
  v5 : Value
  v6 : Value
  v7 : Value
  v8 : Value
  v9 : Value
  v10 : Value
  v11 : Value
  v12 : Value
  ba : Option Addr
  bn : Nat
  bc : Nat
  v14 : Value
  v15 : Value
  v16 : Value
def Opr.cs (o : Opr) : List Value := [o.v0, .int .u32 (o.id : Nat), .int .i64 o.x.t, .int .u64 (o.x.v : Nat), o.v4, o.v5, o.v6, o.v7, o.v8, o.v9, o.v10, o.v11, o.v12, .slice o.ba o.bn o.bc, o.v14, o.v15, o.v16]
instance : Inhabited Opr := ⟨⟨.bool false, 0, ⟨0, 0⟩, .bool false, .bool false, .bool false, .bool false, .bool false, .bool false, .bool false, .bool false, .bool false, none, 0, 0, .bool false, .bool false, .bool false⟩⟩
def Opr.wf (o : Opr) : Prop := o.id < 4294967296 ∧ o.x.wf
theorem Opr.cs_len (o : Opr) : o.cs.length = 17 := rfl
theorem u32_nat {n : Int} (h : (Lit.int .u32 n).wf = true) : ∃ m : Nat, n = m ∧ m < 4294967296 := by
  have := bounds_u32 h
  exact ⟨n.toNat, by omega, by omega⟩
theorem op_dec {R : TypeId → Value → Prop} (cs : List Value) (h : okAllK R [.i .u8, .i .u32, .i .i64, .i .u64, .i .u8, .i .u32, .i .u32, .i .u32, .i .u32, .i .u32, .i .u32, .b, .i .u64, .s 44, .i .i64, .i .u8, .i .i64] cs) : ∃ o : Opr, o.wf ∧ o.cs = cs := by
  have hl := okAllK_length _ _ h
  match cs, hl with
  | [v0, v1, v2, v3, v4, v5, v6, v7, v8, v9, v10, v11, v12, v13, v14, v15, v16], _ =>
    obtain ⟨_, ⟨id, rfl, hid⟩, ⟨t, rfl, ht⟩, ⟨v, rfl, hv⟩, _, _, _, _, _, _, _, _, _, ⟨a, l, c, rfl, _⟩, _⟩ := h
    obtain ⟨id, rfl, hid'⟩ := u32_nat hid
    obtain ⟨v, rfl, hv'⟩ := u64_nat hv
    exact ⟨⟨v0, id, ⟨t, v⟩, v4, v5, v6, v7, v8, v9, v10, v11, v12, a, l, c, v14, v15, v16⟩, ⟨hid', i64_ok ht, hv'⟩, rfl⟩
section
variable {H : Type} {enc : TypeId × Value → H} {W : World} {spare : Nat → Bool} {held : Bool}
set_option maxRecDepth 100000 in
theorem open_ops {a : Option Addr} {n cap : Nat} {y : DataW H} {ps : List MemPlace} {base : Nat} (h : DataW.Trod enc Tryz.prog W base spare held 31 (.slice a n cap) y ps) : ∃ xs : List Opr, xs.length = n ∧ Sl 17 Opr.cs W a cap xs ∧ ∀ x ∈ xs, x.wf :=
  open_slK (d := 7) (e := 102) op_dec (by decide) (by kernel_rfl) (by kernel_rfl) Tryz.underlying31 h
end
end
section
open Go.RowKit
attribute [local go_sem] over_drew chg_drew

abbrev SlO (w : World) (a : Option Addr) (cap : Nat) (xs : List Opr) : Prop := Sl 17 Opr.cs w a cap xs
theorem SlO.at_ {w : World} {a : Option Addr} {cap : Nat} {xs : List Opr} (h : SlO w a cap xs) {k : Nat} (hk : k < xs.length) :
    ∃ b off, a = some ⟨b, off, none⟩ ∧ b < w.heap.size ∧ w.cell? ⟨b, off + k * 17 + 1, none⟩ = some (.int .u32 (xs[k].id : Nat)) ∧ w.cell? ⟨b, off + k * 17 + 2, none⟩ = some (.int .i64 xs[k].x.t) ∧ w.cell? ⟨b, off + k * 17 + 3, none⟩ = some (.int .u64 (xs[k].x.v : Nat)) ∧ w.cell? ⟨b, off + k * 17 + 13, none⟩ = some (.slice xs[k].ba xs[k].bn xs[k].bc) := by
  obtain ⟨b, off, rfl, hb, hcell⟩ := h.rec_ k xs[k] (List.getElem?_eq_getElem hk)
  exact ⟨b, off, rfl, hb, hcell 1 _ rfl, hcell 2 _ rfl, hcell 3 _ rfl, hcell 13 _ rfl⟩
def heavyB (xs : List Opr) : Bool := decide (60 < xs.length) || xs.any fun o => decide (600 < o.bn)
end
end Go.Proofs.YtnihngljmmbenaaGreatDoor
