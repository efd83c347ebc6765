import Derived.Test.YtnihngljmmbenaaGreatDoorBitY
import Derived.Test.YtnihngljmmbenaaGreatDoorRows
import Derived.Test.YtnihngljmmbenaaGreatDoorNI
import Derived.Test.YtnihngljmmbenaaGreatDoorGA
import Derived.Lib.Strings
import Derived.Lib.Slices
import Derived.Lib.Small
import Derived.Lib.Walk
import Derived.Laws.Bits64b
namespace Go.Proofs.YtnihngljmmbenaaGreatDoor
set_option linter.unusedVariables false
set_option linter.unusedSimpArgs false
open Go.RowKit

set_option maxHeartbeats 400000 in
theorem lz_any (d : Nat) (hd : d < 18446744073709551616) (w : World) : Calls Tryz.prog 184 #[.int .u64 (d : Nat)] w fun e w' => e = .returned (.int .i64 (lz d : Nat)) ∧ w = w' := by
  have hl : Lib.bitLen d ≤ 64 := Lib.bitLen_le d 64 (Nat.le_refl _) hd
  have e := hid (show (64 : Int) - (Lib.bitLen d : Nat) = (lz d : Nat) by unfold lz; omega)
  have HC := hid (fun W => len64_int (d : Int) W (by omega) (by omega))
  rw [Int.toNat_natCast] at HC
  go_enter Tryz.func184, Tryz.ntmps184
  go_wp2_with (go_at_call 155; (with_reducible refine (HC.out _).mono ?_); rintro _ _ ⟨rfl, rfl⟩)
  go_ret
  exact ⟨ret_int e.out, rfl⟩

def TabW (w : World) : Prop := 0 < w.heap.size ∧ ∀ j, j < 64 → w.cell? ⟨0, j, none⟩ = some (.int .u8 (Lib.deBruijn64tab.getD j 0 : Nat))
theorem TabW.over {w : World} (h : TabW w) (e : World) : TabW (over w e) := ⟨by have := h.1; simp; omega, fun j hj => by rw [cell_over _ _ _ _ h.1]; exact h.2 j hj⟩
theorem TabW.alloc {w : World} (h : TabW w) (o : Obj) : TabW (w.alloc o) := ⟨by simp, fun j hj => by
  rw [World.cell?_of_block (w := w) (a := ⟨0, j, none⟩) (heap_alloc_old w o h.1)]; exact h.2 j hj⟩
theorem TabW.drew {w : World} (h : TabW w) : TabW w.drew := h
theorem TabW.chg {w : World} {F : List Nat} (h : TabW w) (m : Mut) (hF : 0 ∉ F) : TabW (chg F w m) := ⟨by have := h.1; simp; omega, fun j hj => by rw [cell_chg _ _ _ _ _ h.1 hF]; exact h.2 j hj⟩
theorem TabW.setCell {w : World} (h : TabW w) {p : Addr} (hp : 0 ≠ p.block) (v : Value) : TabW (w.setCell p v) := ⟨by have := h.1; simpa using this, fun j hj => by
  rw [World.cell?_of_block (w := w) (a := ⟨0, j, none⟩) (heap_setCell_ne w p v 0 hp)]; exact h.2 j hj⟩
theorem TabW.ov {w w' : World} (h : TabW w) (k : ∃ e, w' = Go.Proofs.YtnihngljmmbenaaGreatDoor.over w e) : TabW w' := by obtain ⟨e, rfl⟩ := k; exact h.over e
theorem tabA {w W : World} (h : TabW w) (k : TabW w → TabW W := by intro hh; repeat (first | with_reducible exact hh | with_reducible refine TabW.over ?_ _ | with_reducible refine TabW.alloc ?_ _ | with_reducible refine TabW.drew ?_ | ((with_reducible refine TabW.setCell ?_ ?_ _); rotate_left; (first | (focus (simp; done)) | (focus (simp; omega)))) | ((with_reducible refine TabW.chg ?_ _ ?_); rotate_left; (first | assumption | (focus (simp; done)) | (focus (simp; omega)))) | exact hh)) : TabW W := k h

theorem tz_key (x a : Nat) (hx : x < 18446744073709551616) (hx0 : x ≠ 0) (hlow : x &&& (18446744073709551616 - x) = a) :
    IntKind.u64.wrap (bits BinOp.and IntKind.u64 (x : Int) (IntKind.u64.wrap (-(x : Int))) * 285870213051353865) / 288230376151711744 = ((a * 285870213051353865 % 18446744073709551616 / 288230376151711744 : Nat) : Int) := by
  have e1 : IntKind.u64.wrap (-(x : Int)) = ((18446744073709551616 - x : Nat) : Int) := by rw [IntKind.wrap_u64]; omega
  rw [e1, bits_and_u64_nat x _ hx (by omega), hlow, IntKind.wrap_u64]
  omega

set_option maxHeartbeats 1000000 in
theorem tz_core (x k idx : Nat) (w : World) (hx0 : ((x : Int) == 0) = false)
    (key : IntKind.u64.wrap (bits BinOp.and IntKind.u64 (x : Int) (IntKind.u64.wrap (-(x : Int))) * 285870213051353865) / 288230376151711744 = (idx : Int))
    (hi : idx < 64) (hk : k < 64) (hcell : w.cell? ⟨0, idx, none⟩ = some (.int .u8 (k : Nat))) :
    Calls Tryz.prog 185 #[.int .u64 (x : Nat)] w fun e w' => e = .returned (.int .i64 (k : Nat)) ∧ w = w' := by
  go_enter Tryz.func185, Tryz.ntmps185
  go_wp2_with (simp only [key])
  go_ret
  exact ⟨rfl, rfl⟩
theorem tz_any (x : Nat) (hx : x < 18446744073709551616) (h0 : x ≠ 0) (w : World) (hT : TabW w) :
    Calls Tryz.prog 185 #[.int .u64 (x : Nat)] w fun e w' => e = .returned (.int .i64 (tz x : Nat)) ∧ w = w' := by
  obtain ⟨hlow, hk⟩ := Lib.lowest_bit 64 x h0 hx
  obtain ⟨hi, htab⟩ := Lib.deBruijn64_at _ hk
  have hcell := hT.2 _ hi
  rw [htab] at hcell
  exact tz_core x _ _ w (by simp; omega) (tz_key x _ hx h0 hlow) hi hk hcell
end Go.Proofs.YtnihngljmmbenaaGreatDoor
