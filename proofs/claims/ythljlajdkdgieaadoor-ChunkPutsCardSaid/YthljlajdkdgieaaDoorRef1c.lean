/- Walks: the document's Same, Put, Get, Cut. -/
import Derived.Test.YthljlajdkdgieaaDoorRef1b
import Derived.Lib.BufferRead
namespace Go.Proofs.YthljlajdkdgieaaDoor
set_option linter.unusedVariables false
set_option linter.unusedSimpArgs false
open Go.RowKit

/-- Bytes as a string's. -/
def bstr (xs : List Nat) : ByteArray := ⟨(xs.map UInt8.ofNat).toArray⟩
theorem bstr_inj {xs ys : List Nat} (hx : ∀ x ∈ xs, x < 256) (hy : ∀ y ∈ ys, y < 256) (h : bstr xs = bstr ys) : xs = ys := by
  unfold bstr at h
  have h := congrArg (fun b => b.data.toList) h
  simp only at h
  have h2 := congrArg (List.map UInt8.toNat) h
  rw [List.map_map, List.map_map] at h2
  have e : ∀ l : List Nat, (∀ x ∈ l, x < 256) → l.map (UInt8.toNat ∘ UInt8.ofNat) = l := fun l hl => by
    conv => rhs; rw [← List.map_id l]
    exact List.map_congr_left fun x hx => by simp [UInt8.toNat_ofNat']; exact hl x hx
  rwa [e _ hx, e _ hy] at h2

theorem run_bstr (w : World) (xs : List Nat) (hx : ∀ x ∈ xs, x < 256) (a : Option Addr) (cap : Nat) (hs : SlB w a cap xs) :
    (convert 27 9 (.slice a xs.length cap)).run Tryd.prog w = .ok (.string (bstr xs)) w := by
  cases xs with
  | nil =>
    cases a with
    | none => exact Lib.run_convert_nil_bytes w _ _ _ cap byte_elem.ht (by kernel_rfl) (by kernel_rfl)
    | some ad => exact run_convert_bytes_back w _ _ _ ad cap [] byte_elem.ht (by kernel_rfl) (by kernel_rfl) (fun j hj => by cases hj)
  | cons x l =>
    obtain ⟨b, off, rfl, hb, c0⟩ := hs.at_ (k := 0) (by simp)
    have := run_convert_bytes_back w 27 9 5 ⟨b, off, none⟩ cap ((x :: l).map UInt8.ofNat) byte_elem.ht (by kernel_rfl) (by kernel_rfl) (fun j hj => by
      rw [List.length_map] at hj
      obtain ⟨b', off', e0, _, c1⟩ := hs.at_ hj
      injection e0 with e0; injection e0 with e0 e1; subst e0 e1
      rw [Go.WideShapes.add_plain, c1, List.getElem_map]
      have := hx _ (List.getElem_mem hj)
      simp [UInt8.toNat_ofNat', Nat.mod_eq_of_lt this])
    rw [List.length_map] at this
    exact this

set_option maxRecDepth 100000 in
set_option maxHeartbeats 1000000 in
theorem rsame_any (xs ys : List Nat) (hx : ∀ x ∈ xs, x < 256) (hy : ∀ y ∈ ys, y < 256) (N M : Int) (a : Option Addr) (cap : Nat) (b : Option Addr) (cap' : Nat) (w : World) (hs : SlB w a cap xs) (ht : SlB w b cap' ys) :
    Calls Tryd.prog 23 #[bv a xs.length cap N, bv b ys.length cap' M] w (Ret w (.bool (decide (N = M) && decide (xs = ys)))) := by
  have q1 := run_bstr ((w.alloc (.cells #[.slice a xs.length cap, .int .i64 N] 29)).alloc (.cells #[.slice b ys.length cap', .int .i64 M] 29)) xs hx a cap (by repeat (first | with_reducible exact hs | with_reducible refine Sl.over ?_ _ | with_reducible refine Sl.alloc ?_ _ | with_reducible refine Sl.drew ?_ | exact hs))
  have q2 := run_bstr ((w.alloc (.cells #[.slice a xs.length cap, .int .i64 N] 29)).alloc (.cells #[.slice b ys.length cap', .int .i64 M] 29)) ys hy b cap' (by repeat (first | with_reducible exact ht | with_reducible refine Sl.over ?_ _ | with_reducible refine Sl.alloc ?_ _ | with_reducible refine Sl.drew ?_ | exact ht))
  cases h : (N == M)
  · have e := hid (show (decide (N = M) && decide (xs = ys)) = false by simp at h; simp [h])
    go_enter Tryd.func23, Tryd.ntmps23
    go_wp2
    go_ret
    exact ⟨(by (try unfold Ov); repeat (first | with_reducible exact ex_over | with_reducible exact over_self _ | with_reducible refine ex_undrew ?_ | with_reducible refine ex_into ?_ _ | with_reducible refine ex_alloc ?_ _ | with_reducible refine ex_drew ?_ | ((with_reducible refine ex_setCell ?_ ?_ _); rotate_left; (first | omega | (focus (simp; done)) | (focus (simp; omega)))) | ((with_reducible refine ex_chg ?_ _ ?_); rotate_left; (first | assumption | (exact Hid.out (by assumption)))) | exact ex_over)), ret_bool e.out.symm⟩
  · have e := hid (show (decide (N = M) && decide (xs = ys)) = decide (xs = ys) by simp at h; simp [h])
    go_enter Tryd.func23, Tryd.ntmps23
    go_wp2
    go_ret
    refine ⟨(by (try unfold Ov); repeat (first | with_reducible exact ex_over | with_reducible exact over_self _ | with_reducible refine ex_undrew ?_ | with_reducible refine ex_into ?_ _ | with_reducible refine ex_alloc ?_ _ | with_reducible refine ex_drew ?_ | ((with_reducible refine ex_setCell ?_ ?_ _); rotate_left; (first | omega | (focus (simp; done)) | (focus (simp; omega)))) | ((with_reducible refine ex_chg ?_ _ ?_); rotate_left; (first | assumption | (exact Hid.out (by assumption)))) | exact ex_over)), ret_bool ?_⟩
    rw [e.out, Bool.eq_iff_iff, beq_iff_eq, decide_eq_true_eq, Lib.toList_data, Lib.toList_data]
    constructor
    · intro h
      exact bstr_inj hx hy (by
        unfold bstr at h ⊢
        simp only [List.toList_toArray] at h
        rw [h])
    · rintro rfl; rfl
end Go.Proofs.YthljlajdkdgieaaDoor
