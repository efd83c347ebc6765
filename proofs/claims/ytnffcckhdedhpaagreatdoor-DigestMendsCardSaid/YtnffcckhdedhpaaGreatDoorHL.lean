import Derived.Test.YtnffcckhdedhpaaGreatDoorJoi
import Derived.Test.YtnffcckhdedhpaaGreatDoorHE
import Derived.Test.YtnffcckhdedhpaaGreatDoorHJ
namespace Go.Proofs.YtnffcckhdedhpaaGreatDoor
set_option linter.unusedVariables false
set_option linter.unusedSimpArgs false
set_option maxRecDepth 100000
set_option maxHeartbeats 4000000
section
open Go.RowKit
theorem fits2 {x y : Br} {l0 : List Bool} (h0 : x.bs = pack l0) (h1 : x.N = (l0.length : Nat)) {ls : List (List Bool)} (h : Fits [x, y] ls) : ls = [] ∨ ls = [l0] ∨ ∃ l1, ls = [l0, l1] ∧ y.bs = pack l1 ∧ y.N = (l1.length : Nat) := by
 have e : ∀ l, x.bs = pack l ∧ x.N = (l.length : Nat) → l = l0 := fun l hl => by
  refine pack_inj ?_ ?_
  · have h2 := hl.2.symm.trans h1; omega
  · rw [← hl.1, h0]
 match ls, h with
 | [], _ => exact .inl rfl
 | [a], h => right; left; rw [e a (h.2 0 (by simp) (by simp))]
 | [a, b], h =>
  right; right
  exact ⟨b, by rw [e a (h.2 0 (by simp) (by simp))], h.2 1 (by simp) (by simp)⟩
 | a :: b :: c :: r, h => have := h.1; simp at this
theorem fits2_le {x y : Br} {l0 : List Bool} (h0 : x.bs = pack l0) (h1 : x.N = (l0.length : Nat)) (hl0 : l0.length ≤ 4000) (hy : y.bs.length ≤ 100000) : ∀ ls, Fits [x, y] ls → ls.flatten.length ≤ 900000 := by
 intro ls h; rcases fits2 h0 h1 h with rfl | rfl | ⟨l1, rfl, h2, _⟩
 · simp
 · simp; omega
 · rw [h2, pack_length] at hy; unfold nb at hy; simp; omega
theorem join_no {a0 : Option Addr} {c0 : Nat} {l0 : List Bool} {a1 : Option Addr} {c1 : Nat} {bs : List Nat} {N : Int} (hl0 : l0.length ≤ 4000) (hbs : ∀ b ∈ bs, b < 256) (hbl : bs.length ≤ 100000) (hN : -9223372036854775808 ≤ N ∧ N ≤ 9223372036854775807) (hu : soundB bs N = false) (p : Nat) (w : World)
    (hs : Sl 2 Br.cs w (some ⟨p, 0, none⟩) 2 [⟨a0, c0, pack l0, (l0.length : Nat)⟩, ⟨a1, c1, bs, N⟩]) (h0 : SlB w a0 c0 (pack l0)) (h1 : SlB w a1 c1 bs) :
    Calls Tryz.prog 73 #[.slice (some ⟨p, 0, none⟩) 2 2] w (Ret w (.tuple #[.agg #[.slice none 0 0, .int .i64 0], .int .u16 11])) := by
  have k := join_any [⟨a0, c0, pack l0, (l0.length : Nat)⟩, ⟨a1, c1, bs, N⟩] (by simp) (fits2_le (l0 := l0) rfl rfl hl0 hbl) _ _ w hs (fun x hx => by
   simp at hx; rcases hx with rfl | rfl
   · exact ⟨h0, pack_lt, pkl (by omega), by simp only; omega⟩
   · exact ⟨h1, hbs, by simp only; omega, hN⟩)
  refine k.mono ?_; rintro en w' (⟨_, rfl, ho⟩ | ⟨ls, hls, hf, _⟩)
  · exact ⟨ho, rfl⟩
  · exfalso
    rcases fits2 rfl rfl hf with rfl | rfl | ⟨l1, rfl, h2, h3⟩
    · simp at hls
    · simp at hls
    · simp only at h2 h3; rw [h2, h3, spk] at hu; cases hu
theorem join_yes {a0 : Option Addr} {c0 : Nat} {l0 : List Bool} {a1 : Option Addr} {c1 : Nat} {l1 : List Bool} (hl0 : l0.length ≤ 4000) (hl1 : l1.length ≤ 600000) (p : Nat) (w : World)
    (hs : Sl 2 Br.cs w (some ⟨p, 0, none⟩) 2 [⟨a0, c0, pack l0, (l0.length : Nat)⟩, ⟨a1, c1, pack l1, (l1.length : Nat)⟩]) (h0 : SlB w a0 c0 (pack l0)) (h1 : SlB w a1 c1 (pack l1)) :
    Calls Tryz.prog 73 #[.slice (some ⟨p, 0, none⟩) 2 2] w (PutPost w (l0 ++ l1)) := by
  have k := join_any [⟨a0, c0, pack l0, (l0.length : Nat)⟩, ⟨a1, c1, pack l1, (l1.length : Nat)⟩] (by simp) (fits2_le (l0 := l0) rfl rfl hl0 (by simp only [pack_length]; unfold nb; omega)) _ _ w hs (fun x hx => by
   simp at hx; rcases hx with rfl | rfl
   · exact ⟨h0, pack_lt, pkl (by omega), by simp only; omega⟩
   · exact ⟨h1, pack_lt, pkl (by omega), by simp only; omega⟩)
  refine k.mono ?_; rintro en w' (⟨⟨x, hx, hu⟩, _⟩ | ⟨ls, hls, hf, hp⟩)
  · exfalso
    simp at hx; rcases hx with rfl | rfl
    · simp only [spk] at hu; cases hu
    · simp only [spk] at hu; cases hu
  · rcases fits2 rfl rfl hf with rfl | rfl | ⟨l2, rfl, h2, h3⟩
    · simp at hls
    · simp at hls
    · simp only at h2 h3; have : l1 = l2 := pack_inj (by omega) h2; subst this
      simpa using hp
theorem pl_ne0 {a b c a' : Nat} (h : (⟨a, b, c⟩ : Pl) ≠ ⟨a', 0, 0⟩) :
    ((a : Int) == a' && (b : Int) == 0 && (c : Int) == 0) = false ∧ (a == a' && b == 0 && c == 0) = false ∧
    ((a : Int) != a' || (b : Int) != 0 || (c : Int) != 0) = true ∧ (a != a' || b != 0 || c != 0) = true ∧
    (!((a : Int) == a') || !((b : Int) == 0) || !((c : Int) == 0)) = true ∧ (!(a == a') || !(b == 0) || !(c == 0)) = true := pl_ne h
theorem pl_eq {a b c a' b' c' : Nat} (h : (⟨a, b, c⟩ : Pl) = ⟨a', b', c'⟩) :
    ((a : Int) == a' && (b : Int) == b' && (c : Int) == c') = true ∧ (a == a' && b == b' && c == c') = true ∧
    ((a : Int) != a' || (b : Int) != b' || (c : Int) != c') = false ∧ (a != a' || b != b' || c != c') = false ∧
    (!((a : Int) == a') || !((b : Int) == b') || !((c : Int) == c')) = false ∧ (!(a == a') || !(b == b') || !(c == c')) = false := by
  simp only [Pl.mk.injEq] at h; obtain ⟨rfl, rfl, rfl⟩ := h; simp
theorem pl_eq0 {a b c a' : Nat} (h : (⟨a, b, c⟩ : Pl) = ⟨a', 0, 0⟩) :
    ((a : Int) == a' && (b : Int) == 0 && (c : Int) == 0) = true ∧ (a == a' && b == 0 && c == 0) = true ∧
    ((a : Int) != a' || (b : Int) != 0 || (c : Int) != 0) = false ∧ (a != a' || b != 0 || c != 0) = false ∧
    (!((a : Int) == a') || !((b : Int) == 0) || !((c : Int) == 0)) = false ∧ (!(a == a') || !(b == 0) || !(c == 0)) = false := pl_eq h
structure Fi where
 kd : Int
 ep : Int
 id : Nat
 pc : Nat
 pb : Nat
 pn : Nat
 ct : Nat
 cl : Bool
 sm : Int
 a : Option Addr
 c : Nat
 bs : List Nat
 N : Int
abbrev Fi.fr (f : Fi) : Pl := ⟨f.pc, f.pb, f.pn⟩
abbrev Fi.v (f : Fi) : Value := .agg #[.int .u8 f.kd, .int .u32 f.ep, .int .u32 (f.id : Nat), .int .u32 (f.pc : Nat), .int .u32 (f.pb : Nat), .int .u32 (f.pn : Nat), .int .u32 (f.ct : Nat), .bool f.cl, .int .u64 f.sm, .slice f.a f.bs.length f.c, .int .i64 f.N]
structure FiOk (w : World) (f : Fi) : Prop where
 id : f.id < 4294967296
 pc : f.pc < 4294967296
 pb : f.pb < 4294967296
 pn : f.pn < 4294967296
 ct : f.ct < 4294967296
 s : SlB w f.a f.c f.bs
 lt : ∀ b ∈ f.bs, b < 256
 len : f.bs.length ≤ 60000
 n : -9223372036854775808 ≤ f.N ∧ f.N ≤ 9223372036854775807
end
section
open Go.RowKit
attribute [local go_sem] odr cdr
attribute [local go_sem high] place_eql place_neq
abbrev partZ : Value := .agg #[.slice none 0 0, .int .i64 0, .slice none 0 0, .int .i64 0, .int .i64 0, .int .i64 0, .bool false, .int .u64 0, .int .u8 0, .int .u8 0, .bool false]
def BrPost (W : World) (cl : Bool) (er : Nat) (cs : List Sm) (en : Ending) (w' : World) : Prop :=
 (∃ e, w' = over W e) ∧ if er = 0 then ∃ p : Prt, en = .returned (.tuple #[p.v, .int .u16 0]) ∧ PrtOk W.heap.size w' p ∧ PrtIs p cs cl else en = .returned (.tuple #[partZ, .int .u16 (er : Nat)])
def BrCase (l0 : List Bool) (s : Sr) (sz : Nat) (f : Fi) (er : Nat) (cs : List Sm) : Prop :=
 (er = 61 ∧ cs = [] ∧ soundB f.bs f.N = false) ∨
 ∃ lf xs e, f.bs = pack lf ∧ f.N = (lf.length : Nat) ∧ RunC (l0 ++ lf) xs e ∧
   ((er = 61 ∧ cs = [] ∧ e = 61) ∨
    (e = 0 ∧ er = 61 ∧ cs = [] ∧ (xs.length ≠ f.ct ∨ (xs.length = f.ct ∧ (f.ct ≤ f.pn ∨ (f.pn < f.ct ∧ (sz < f.ct ∨ (f.ct ≤ sz ∧ s.some = true ∧ ∃ h : 0 < xs.length, xs[0].t ≤ s.ahead))))))) ∨
    (e = 0 ∧ er = 0 ∧ cs = xs ∧ xs.length = f.ct ∧ f.pn < f.ct ∧ f.ct ≤ sz ∧ (s.some = true → ∀ h : 0 < xs.length, s.ahead < xs[0].t)))
theorem brought_122 {base bx : Nat} {w : World} {b n sz mb : Nat} {L : List Se} (h : BkAt base w b n sz mb L) (hn : L.length < n) (hn2 : n ≤ 64) {x : Se} (hs : SeAt bx w x) (hcl : x.s.cl.length ≤ 900) (f : Fi) (hf : FiOk w f) (h1 : f.fr ≠ x.s.fin) (h2 : f.fr ≠ ⟨x.s.cl.length, 0, 0⟩) :
    Calls Tryz.prog 47 #[.pointer (some ⟨b, 0, none⟩), .pointer (some ⟨x.sp, 0, none⟩), f.v] w (BrPost w f.cl 122 []) := by
  have hid32 := hf.id; have h32a := hf.pc; have h32b := hf.pb; have h32c := hf.pn; have h32d := hf.ct; obtain ⟨g, cap, m, ho⟩ := hs.open_; have hm : x.s.cl.length = m := ho.hc; have HR := hid (fun W (hW : ∃ e, W = over w e) => room_any (bk_ov h hW) f.id hn hn2); have HE := hid (fun W (hW : ∃ e, W = over w e) => end_any (hs.ov hW) (ho.ov hW) (by omega)); obtain ⟨⟨fc, fb, fn⟩, hfin⟩ : ∃ q, x.s.fin = q := ⟨_, rfl⟩; rw [hfin] at HE; simp only [Pl.v] at HE; have HFin := hid hfin; have HFi := hid hf; have HS := hid hs; have HO := hid ho; have hfc : fc = m := by have := congrArg Pl.chunk hfin; exact this.symm.trans hm
  rw [hfin] at h1; rw [hm, ← hfc] at h2; obtain ⟨hne2, hne3, hne4, hne5, hne6, hne7⟩ := pl_ne h1; obtain ⟨hme2, hme3, hme4, hme5, hme6, hme7⟩ := pl_ne0 h2; obtain ⟨kd, ep, id, pc, pb, pn, ct, cl, sm, fa, fcap, bs, N⟩ := f; simp only at *; clear hs ho h hfin h1 h2 hfc
  go_enter Tryz.func47, Tryz.ntmps47; go_wp2_with (first | (go_at_call 71; (with_reducible refine (HR.out _ ovA).mono ?_); rintro _ _ ⟨⟨e1, rfl⟩, rfl⟩) | (go_at_call 72; (with_reducible refine (HE.out _ ovA).mono ?_); rintro _ _ ⟨⟨e2, rfl⟩, rfl⟩))
  (try simp only [Exit.inBlock, Exit.then])
  refine bodyPost_ret (v := ?rv92) ?rh92 rfl ?rp92
  case rh92 => (simp only [results, show Tryz.f47.results = #[.cell 6 113, .tmp 7] from rfl]; go_simp; rfl)
  refine ⟨ovA, ?_⟩; rw [if_neg (by decide)]; rfl
end
end Go.Proofs.YtnffcckhdedhpaaGreatDoor
