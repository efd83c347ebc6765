/- What is under way, plain: places, pieces, and what the calls on a window compute. -/
import Derived.Test.YtbkekpfancbemaaLib
namespace Go.Proofs.Ytbkekpfancbemaa
set_option linter.unusedVariables false
set_option linter.unusedSimpArgs false
open Go.RowKit

def u32ok (n : Int) : Prop := 0 ≤ n ∧ n < 4294967296

structure Pl where
  c : Int
  b : Int
  n : Int
  deriving Inhabited, DecidableEq
namespace Pl
def cs (p : Pl) : List Value := [.int .u32 p.c, .int .u32 p.b, .int .u32 p.n]
abbrev v (p : Pl) : Value := .agg #[.int .u32 p.c, .int .u32 p.b, .int .u32 p.n]
def wf (p : Pl) : Prop := u32ok p.c ∧ u32ok p.b ∧ u32ok p.n
end Pl

structure Pc where
  s : Int
  f : Pl
  t : Pl
  n : Int
  deriving Inhabited, DecidableEq
namespace Pc
def cs (p : Pc) : List Value := [.int .u32 p.s, .int .u32 p.f.c, .int .u32 p.f.b, .int .u32 p.f.n, .int .u32 p.t.c, .int .u32 p.t.b, .int .u32 p.t.n, .int .i64 p.n]
abbrev v (p : Pc) : Value := .agg #[.int .u32 p.s, .int .u32 p.f.c, .int .u32 p.f.b, .int .u32 p.f.n, .int .u32 p.t.c, .int .u32 p.t.b, .int .u32 p.t.n, .int .i64 p.n]
def wf (p : Pc) : Prop := u32ok p.s ∧ p.f.wf ∧ p.t.wf ∧ -9223372036854775808 ≤ p.n ∧ p.n ≤ 9223372036854775807
theorem cs_len (p : Pc) : p.cs.length = 8 := rfl
theorem cs_one (p : Pc) : ∀ u ∈ p.cs, u.oneCell' = true := by intro u hu; simp [cs] at hu; rcases hu with rfl | rfl | rfl | rfl | rfl | rfl | rfl | rfl <;> rfl
end Pc

abbrev SlP (w : World) (a : Option Addr) (cap : Nat) (xs : List Pc) : Prop := Sl 8 Pc.cs w a cap xs
theorem SlP.at_ {w : World} {a : Option Addr} {cap : Nat} {xs : List Pc} (h : SlP w a cap xs) {k : Nat} (hk : k < xs.length) :
    ∃ b off, a = some ⟨b, off, none⟩ ∧ b < w.heap.size ∧ w.cell? ⟨b, off + k * 8, none⟩ = some (.int .u32 xs[k].s) ∧ w.cell? ⟨b, off + k * 8 + 1, none⟩ = some (.int .u32 xs[k].f.c) ∧ w.cell? ⟨b, off + k * 8 + 2, none⟩ = some (.int .u32 xs[k].f.b) ∧
      w.cell? ⟨b, off + k * 8 + 3, none⟩ = some (.int .u32 xs[k].f.n) ∧ w.cell? ⟨b, off + k * 8 + 4, none⟩ = some (.int .u32 xs[k].t.c) ∧ w.cell? ⟨b, off + k * 8 + 5, none⟩ = some (.int .u32 xs[k].t.b) ∧ w.cell? ⟨b, off + k * 8 + 6, none⟩ = some (.int .u32 xs[k].t.n) ∧
      w.cell? ⟨b, off + k * 8 + 7, none⟩ = some (.int .i64 xs[k].n) := by
  obtain ⟨b, off, rfl, hb, hcell⟩ := h.rec_ k xs[k] (List.getElem?_eq_getElem hk)
  exact ⟨b, off, rfl, hb, hcell 0 _ rfl, hcell 1 _ rfl, hcell 2 _ rfl, hcell 3 _ rfl, hcell 4 _ rfl, hcell 5 _ rfl, hcell 6 _ rfl, hcell 7 _ rfl⟩

/-- ahead -/
def bef (a b : Pl) : Bool := if a.c = b.c then decide (a.n < b.n) else decide (a.c < b.c)
def sumN : List Pc → Int
  | [] => 0
  | p :: l => p.n + sumN l
theorem sumN_append (a b : List Pc) : sumN (a ++ b) = sumN a + sumN b := by
  induction a with
  | nil => simp [sumN]
  | cons x a ih => simp only [List.cons_append, sumN, ih]; omega
/-- each piece has bits -/
def okPs (l : List Pc) : Prop := ∀ p ∈ l, 1 ≤ p.n ∧ p.n ≤ 65536
theorem sumN_nonneg {l : List Pc} (h : okPs l) : (l.length : Int) ≤ sumN l ∧ sumN l ≤ 65536 * l.length := by
  induction l with
  | nil => simp [sumN]
  | cons x l ih =>
    have h1 := h x (by simp)
    have h2 := ih (fun p hp => h p (by simp [hp]))
    simp only [sumN, List.length_cons]
    omega
def addOk (most : Int) (l : List Pc) (p : Pc) : Bool := decide (1 ≤ p.n) && decide (p.n ≤ 65536) && decide (sumN l < most)
def addW (most : Int) (l : List Pc) (p : Pc) : List Pc := if addOk most l p then l ++ [p] else l
def ackQ (s : Int) (to : Pl) (p : Pc) : Bool := decide (p.s = s) && !bef to p.t
def dropQ (s : Int) (p : Pc) : Bool := decide (p.s = s)
def outW (q : Pc → Bool) (l : List Pc) : List Pc := l.filter fun p => !q p
theorem outW_len (q : Pc → Bool) (l : List Pc) : (outW q l).length ≤ l.length := List.length_filter_le _ _
theorem okPs_out {q : Pc → Bool} {l : List Pc} (h : okPs l) : okPs (outW q l) := fun p hp => h p (List.mem_filter.1 hp).1
theorem addW_ok {most : Int} {l : List Pc} {p : Pc} (h : okPs l) : okPs (addW most l p) := by
  unfold addW
  split
  · rename_i hk
    simp only [addOk, Bool.and_eq_true, decide_eq_true_eq] at hk
    intro x hx
    rcases List.mem_append.1 hx with hx | hx
    · exact h x hx
    · simp at hx; subst hx; exact hk.1
  · exact h
/-- what such a window may hold -/
def winOk (most : Int) (l : List Pc) : Prop := okPs l ∧ sumN l < most + 65536 ∧ most ≤ 1048576
theorem sumN_out (q : Pc → Bool) {l : List Pc} (h : okPs l) : sumN (outW q l) ≤ sumN l := by
  induction l with
  | nil => simp [outW, sumN]
  | cons x l ih =>
    have h1 := h x (by simp)
    have h2 := ih (fun p hp => h p (by simp [hp]))
    unfold outW at *
    rw [List.filter_cons]
    split
    · simp only [sumN]; omega
    · simp only [sumN]; omega
theorem winOk_add {most : Int} {l : List Pc} (h : winOk most l) (p : Pc) : winOk most (addW most l p) := by
  refine ⟨addW_ok h.1, ?_, h.2.2⟩
  unfold addW
  split
  · rename_i hk
    simp only [addOk, Bool.and_eq_true, decide_eq_true_eq] at hk
    rw [sumN_append]; simp only [sumN]; omega
  · exact h.2.1
theorem winOk_out {most : Int} {l : List Pc} (h : winOk most l) (q : Pc → Bool) : winOk most (outW q l) := ⟨okPs_out h.1, by have := sumN_out q h.1; have := h.2.1; omega, h.2.2⟩
theorem winOk_len {most : Int} {l : List Pc} (h : winOk most l) : l.length ≤ 1200000 := by
  have h1 := (sumN_nonneg h.1).1
  have h2 := h.2.1
  have h3 := h.2.2
  omega
end Go.Proofs.Ytbkekpfancbemaa
