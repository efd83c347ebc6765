/- Arguments opened: samples, what a writer of samples knows. -/
import Derived.Test.YthljlajdkdgieaaDoorLaid
import Derived.Test.YthljlajdkdgieaaDoorGF
namespace Go.Proofs.YthljlajdkdgieaaDoor
set_option linter.unusedVariables false
set_option linter.unusedSimpArgs false
open Go.RowKit Go.ChangeShapes Go.WideShapes Go.ChangeAt

theorem i64_ok {n : Int} (h : (Lit.int .i64 n).wf = true) : i64ok n := by
  have := bounds_i64 h
  unfold i64ok; omega
theorem enc_dec (cs : List Value) (h : okAll [some .i64, some .i64, some .i64, none, some .u64, some .u8, some .u8] cs) : ∃ e : En, e.wf ∧ cs = [.int .i64 e.n, .int .i64 e.last, .int .i64 e.delta, .bool e.val.has, .int .u64 (e.val.prev : Nat), .int .u8 (e.val.lead : Nat), .int .u8 (e.val.width : Nat)] := by
  have hl := okAll_length _ _ h
  match cs, hl with
  | [v0, v1, v2, v3, v4, v5, v6], _ =>
    obtain ⟨⟨n, rfl, hn⟩, ⟨l, rfl, hl⟩, ⟨d, rfl, hd⟩, ⟨b, rfl⟩, ⟨p, rfl, hp⟩, ⟨x, rfl, hx⟩, ⟨k, rfl, hk⟩, _⟩ := h
    obtain ⟨p, rfl, hp'⟩ := u64_nat hp
    obtain ⟨x, rfl, hx'⟩ := u8_nat hx
    obtain ⟨k, rfl, hk'⟩ := u8_nat hk
    exact ⟨⟨n, l, d, ⟨b, p, x, k⟩⟩, ⟨i64_ok hn, i64_ok hl, i64_ok hd, hp', hx', hk'⟩, rfl⟩
theorem sm_dec (cs : List Value) (h : okAll [some .i64, some .u64] cs) : ∃ s : Sm, s.wf ∧ s.cs = cs := by
  have hl := okAll_length _ _ h
  match cs, hl with
  | [v0, v1], _ =>
    obtain ⟨⟨n, rfl, hn⟩, ⟨p, rfl, hp⟩, _⟩ := h
    obtain ⟨p, rfl, hp'⟩ := u64_nat hp
    exact ⟨⟨n, p⟩, ⟨i64_ok hn, hp'⟩, rfl⟩
section
variable {H : Type} {enc : TypeId × Value → H} {W : World} {spare : Nat → Bool} {held : Bool}
set_option maxRecDepth 100000 in
theorem open_enc {v : Value} {y : DataW H} {ps : List MemPlace} {base : Nat} {r : Reach} (hv : Value.okWide Tryd.prog W r base 42 v) {b : Nat} (h : DataW.Trod enc Tryd.prog W b spare held 42 v y ps) : ∃ e : En, e.wf ∧ v = e.v := by
  obtain ⟨cs, rfl, _⟩ := okWide_struct Tryd.underlying42 hv
  have h1 := open_flat (d := 6) (ks := [some .i64, some .i64, some .i64, none, some .u64, some .u8, some .u8]) (by kernel_rfl) h
  obtain ⟨e, he, hc⟩ := enc_dec _ h1
  refine ⟨e, he, ?_⟩
  have : cs = #[.int .i64 e.n, .int .i64 e.last, .int .i64 e.delta, .bool e.val.has, .int .u64 (e.val.prev : Nat), .int .u8 (e.val.lead : Nat), .int .u8 (e.val.width : Nat)] := by
    apply Array.ext'
    rw [← show cs.toList = _ from hc]
  rw [this]
set_option maxRecDepth 100000 in
theorem open_sample {v : Value} {y : DataW H} {ps : List MemPlace} {base : Nat} {r : Reach} (hv : Value.okWide Tryd.prog W r base 47 v) {b : Nat} (h : DataW.Trod enc Tryd.prog W b spare held 47 v y ps) : ∃ s : Sm, s.wf ∧ v = smV s.t s.v := by
  obtain ⟨cs, rfl, _⟩ := okWide_struct Tryd.underlying47 hv
  have h1 := open_flat (d := 5) (ks := [some .i64, some .u64]) (by kernel_rfl) h
  obtain ⟨s, hs, hc⟩ := sm_dec _ h1
  refine ⟨s, hs, ?_⟩
  have : cs = #[.int .i64 s.t, .int .u64 (s.v : Nat)] := by
    apply Array.ext'
    rw [← show _ = cs.toList from hc]; rfl
  rw [this]
theorem open_samples {a : Option Addr} {n cap : Nat} {y : DataW H} {ps : List MemPlace} {base : Nat} (h : DataW.Trod enc Tryd.prog W base spare held 39 (.slice a n cap) y ps) : ∃ xs : List Sm, xs.length = n ∧ Sl 2 Sm.cs W a cap xs ∧ ∀ x ∈ xs, x.wf :=
  open_sl (d := 5) (ks := [some .i64, some .u64]) (e := 47) sm_dec (by decide) (by kernel_rfl) (by kernel_rfl) Tryd.underlying39 h
end
end Go.Proofs.YthljlajdkdgieaaDoor
