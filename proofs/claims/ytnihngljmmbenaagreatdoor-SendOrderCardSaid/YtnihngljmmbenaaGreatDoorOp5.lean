import Derived.Test.YtnihngljmmbenaaGreatDoorHF
namespace Go.Proofs.YtnihngljmmbenaaGreatDoor
set_option linter.unusedVariables false
set_option linter.unusedSimpArgs false
open Go.RowKit Go.ChangeShapes Go.WideShapes Go.ChangeAt
structure Op5 where
  k : Int
  sr : Nat
  x : Sm
  kd : Nat
  ep : Nat
  fs : Nat
  pc : Nat
  pb : Nat
  pn : Nat
  ct : Int
  cl : Bool
  sm : Nat
  a : Option Addr
  l : Nat
  c : Nat
  N : Int
  own : Bool
  at_ : Nat
  n : Nat
def Op5.cs (o : Op5) : List Value := [.int .u8 o.k, .int .u32 (o.sr : Nat), .int .i64 o.x.t, .int .u64 (o.x.v : Nat), .int .u8 (o.kd : Nat), .int .u32 (o.ep : Nat), .int .u32 (o.fs : Nat), .int .u32 (o.pc : Nat), .int .u32 (o.pb : Nat), .int .u32 (o.pn : Nat), .int .u32 o.ct, .bool o.cl, .int .u64 (o.sm : Nat), .slice o.a o.l o.c, .int .i64 o.N, .bool o.own, .int .u8 (o.at_ : Nat), .int .u32 (o.n : Nat)]
instance : Inhabited Op5 := ⟨⟨0, 0, ⟨0, 0⟩, 0, 0, 0, 0, 0, 0, 0, false, 0, none, 0, 0, 0, false, 0, 0⟩⟩
theorem Op5.cs_len (o : Op5) : o.cs.length = 18 := rfl
structure Op5.wf (o : Op5) : Prop where
  k : 0 ≤ o.k ∧ o.k ≤ 255
  sr : o.sr < 4294967296
  x : o.x.wf
  kd : o.kd < 256
  ep : o.ep < 4294967296
  fs : o.fs < 4294967296
  pc : o.pc < 4294967296
  pb : o.pb < 4294967296
  pn : o.pn < 4294967296
  sm : o.sm < 18446744073709551616
  at_ : o.at_ < 256
  n : o.n < 4294967296
theorem op5_dec {R : TypeId → Value → Prop} (cs : List Value) (h : okAllK R [.i .u8, .i .u32, .i .i64, .i .u64, .i .u8, .i .u32, .i .u32, .i .u32, .i .u32, .i .u32, .i .u32, .b, .i .u64, .s 44, .i .i64, .b, .i .u8, .i .u32] cs) : ∃ o : Op5, o.wf ∧ o.cs = cs := by
  have hl := okAllK_length _ _ h
  match cs, hl with
  | [v0, v1, v2, v3, v4, v5, v6, v7, v8, v9, v10, v11, v12, v13, v14, v15, v16, v17], _ =>
    obtain ⟨⟨k, rfl, hk⟩, ⟨sr, rfl, hsr⟩, ⟨t, rfl, ht⟩, ⟨v, rfl, hv⟩, ⟨kd, rfl, hkd⟩, ⟨ep, rfl, hep⟩, ⟨fs, rfl, hfs⟩, ⟨pc, rfl, hpc⟩, ⟨pb, rfl, hpb⟩, ⟨pn, rfl, hpn⟩, ⟨ct, rfl, hct⟩, ⟨cl, rfl⟩, ⟨sm, rfl, hsm⟩, ⟨a, l, c, rfl, _⟩, ⟨N, rfl, hN⟩, ⟨ow, rfl⟩, ⟨at_, rfl, hat⟩, ⟨n, rfl, hn⟩, _⟩ := h
    obtain ⟨sr, rfl, hsr'⟩ := u32_nat hsr
    obtain ⟨v, rfl, hv'⟩ := u64_nat hv
    obtain ⟨kd, rfl, hkd'⟩ := u8_nat hkd
    obtain ⟨ep, rfl, hep'⟩ := u32_nat hep
    obtain ⟨fs, rfl, hfs'⟩ := u32_nat hfs
    obtain ⟨pc, rfl, hpc'⟩ := u32_nat hpc
    obtain ⟨pb, rfl, hpb'⟩ := u32_nat hpb
    obtain ⟨pn, rfl, hpn'⟩ := u32_nat hpn
    obtain ⟨sm, rfl, hsm'⟩ := u64_nat hsm
    obtain ⟨at_, rfl, hat'⟩ := u8_nat hat
    obtain ⟨n, rfl, hn'⟩ := u32_nat hn
    exact ⟨⟨k, sr, ⟨t, v⟩, kd, ep, fs, pc, pb, pn, ct, cl, sm, a, l, c, N, ow, at_, n⟩, ⟨bounds_u8 hk, hsr', ⟨i64_ok ht, hv'⟩, hkd', hep', hfs', hpc', hpb', hpn', hsm', hat', hn'⟩, rfl⟩
section
variable {H : Type} {enc : TypeId × Value → H} {W : World} {spare : Nat → Bool} {held : Bool}
set_option maxRecDepth 100000 in
theorem open_ops5 {a : Option Addr} {n cap : Nat} {y : DataW H} {ps : List MemPlace} {base : Nat} (h : DataW.Trod enc Tryz.prog W base spare held 68 (.slice a n cap) y ps) : ∃ xs : List Op5, xs.length = n ∧ Sl 18 Op5.cs W a cap xs ∧ ∀ x ∈ xs, x.wf :=
  open_slK (d := 7) (e := 72) op5_dec (by decide) (by kernel_rfl) (by kernel_rfl) Tryz.underlying68 h
end
end Go.Proofs.YtnihngljmmbenaaGreatDoor
