import Derived.Test.YtnffcckhdedhpaaGreatDoorQD
import Derived.Test.YtnffcckhdedhpaaGreatDoorPD
import Derived.Test.YtnffcckhdedhpaaGreatDoorKC
import Derived.Test.YtnffcckhdedhpaaGreatDoorLayW
import Derived.Test.YtnffcckhdedhpaaGreatDoorLLaid
import Derived.Test.YtnffcckhdedhpaaGreatDoorPC
import Derived.Test.YtnffcckhdedhpaaGreatDoorGM
import Derived.Test.YtnffcckhdedhpaaGreatDoorGF
import Derived.Test.YtnffcckhdedhpaaGreatDoorGC
import Derived.Test.YtnffcckhdedhpaaGreatDoorGA
import Derived.Test.YtnffcckhdedhpaaGreatDoorGB
import Derived.Lib.BufferRead
import Derived.Test.YtnffcckhdedhpaaGreatDoorGD
import Derived.Test.YtnffcckhdedhpaaGreatDoorHC
import Derived.Test.YtnffcckhdedhpaaGreatDoorHD
import Derived.Test.YtnffcckhdedhpaaGreatDoorHE
import Derived.Test.YtnffcckhdedhpaaGreatDoorBkC
import Derived.Test.YtnffcckhdedhpaaGreatDoorLC
import Derived.Test.YtnffcckhdedhpaaGreatDoorPB
import Derived.Test.YtnffcckhdedhpaaGreatDoorPA
import Derived.Deep.CutRange
import Derived.Test.YtnffcckhdedhpaaGreatDoorQC
namespace Go.Proofs.YtnffcckhdedhpaaGreatDoor
set_option linter.unusedVariables false
set_option linter.unusedSimpArgs false
open Go.RowKit
attribute [local go_sem] odr cdr
theorem laid_cl {W : World} {base b mb sz : Nat} {L : List Se} {ops : List (Nat × Sm)} {rs : List Rs} (h : Laid W base b mb sz L (layS sz ops) rs) : ∀ id, (getS (bkOf L) id).cl.length ≤ 900 := fun id => by
 rw [h.eq]; refine getS_mem (P := fun s => s.cl.length ≤ 900) (fun y hy => ?_) (by simp [Sr.zero]) id; obtain ⟨i, hi, rfl⟩ := List.getElem_of_mem hy; have hr : i < rs.length := by rw [h.len]; exact hi
 obtain ⟨id', s', hK⟩ := h.k hr; have h1 := hK.cl; have h2 := hK.get; have h3 := (h.at_ i hr).2.1; rw [hK.nid hr] at h3; rw [h3, h.eq, getS_at h.I.ids hi] at h2; rw [h2]; omega
end Go.Proofs.YtnffcckhdedhpaaGreatDoor
