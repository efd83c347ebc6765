import Derived.Test.YtnihngljmmbenaaGreatDoorHE
import Derived.Test.YtnihngljmmbenaaGreatDoorLayW
namespace Go.Proofs.YtnihngljmmbenaaGreatDoor
set_option linter.unusedVariables false
set_option linter.unusedSimpArgs false
open Go.RowKit

structure Laid (W : World) (base b mb sz : Nat) (L : List Se) (S : List (Nat × Sr)) (rs : List Rs) : Prop where
  bk : BkAt base W b 64 sz mb L
  eq : bkOf L = S
  len : rs.length = S.length
  at_ : ∀ k, (h : k < rs.length) → ∃ h2 : k < S.length, rs[k].id = S[k].1 ∧ rs[k].l = S[k].2.all
  I : LayI sz 60 S
theorem LayI.mono {sz k n : Nat} {S : List (Nat × Sr)} (h : LayI sz k S) (hk : k ≤ n) : LayI sz n S := ⟨by have := h.len; omega, fun x hx => ⟨by have := (h.all x hx).1; omega, (h.all x hx).2⟩, h.full, h.ids⟩
theorem laid_of {W : World} {base b mb sz : Nat} {L : List Se} {ops : List (Nat × Sm)} {rs : List Rs} (hsz : 1 ≤ sz) (hl : ops.length ≤ 60) (h : BkAt base W b 64 sz mb L) (he : bkOf L = layS sz ops) (hm : rs.map (fun r => (r.id, r.l)) = allS (layS sz ops)) : Laid W base b mb sz L (layS sz ops) rs := by
  have hlen : rs.length = (layS sz ops).length := by have := congrArg List.length hm; simpa [allS] using this
  have hI := layI hsz ops ops.length (Nat.le_refl _)
  rw [List.take_length] at hI
  refine ⟨h, he, hlen, fun j hj => ?_, hI.mono hl⟩
  have h2 : j < (layS sz ops).length := by omega
  have h3 := congrArg (fun l => l[j]?) hm
  simp [allS, List.getElem?_eq_getElem hj, List.getElem?_eq_getElem h2] at h3
  exact ⟨h2, h3.1, h3.2⟩
structure LaidK (L : List Se) (S : List (Nat × Sr)) (rs : List Rs) (k id : Nat) (s : Sr) : Prop where
  nid : ∀ h : k < rs.length, rs[k].id = id
  l : ∀ h : k < rs.length, rs[k].l = s.all
  get : getS (bkOf L) id = s
  ok : SrOk s
  all : s.all.length ≤ 60
  cl : s.cl.length ≤ 60
theorem Laid.k {W : World} {base b mb sz : Nat} {L : List Se} {S : List (Nat × Sr)} {rs : List Rs} (h : Laid W base b mb sz L S rs) {k : Nat} (hk : k < rs.length) : ∃ id s, LaidK L S rs k id s := by
  obtain ⟨h2, h3, h4⟩ := h.at_ k hk
  have hg : getS (bkOf L) S[k].1 = S[k].2 := by rw [h.eq]; exact getS_at h.I.ids h2
  have hok : SrOk S[k].2 := by rw [← hg]; exact getS_ok h.bk _
  have ha := (h.I.all _ (List.getElem_mem h2)).1
  exact ⟨S[k].1, S[k].2, fun _ => h3, fun _ => h4, hg, hok, ha, cl_le hok ha⟩
theorem Laid.ov {W W' : World} {base b mb sz : Nat} {L : List Se} {S : List (Nat × Sr)} {rs : List Rs} (h : Laid W base b mb sz L S rs) (ho : ∃ e, W' = over W e) : Laid W' base b mb sz L S rs := by
  obtain ⟨e, rfl⟩ := ho
  exact ⟨h.bk.on e, h.eq, h.len, h.at_, h.I⟩
end Go.Proofs.YtnihngljmmbenaaGreatDoor
