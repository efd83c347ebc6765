import Derived.Test.YtnffcckhdedhpaaGreatDoorKC
import Derived.Test.YtnffcckhdedhpaaGreatDoorLayW
import Derived.Test.YtnffcckhdedhpaaGreatDoorLLaid
namespace Go.Proofs.YtnffcckhdedhpaaGreatDoor
set_option linter.unusedVariables false
set_option linter.unusedSimpArgs false
section
open Go.RowKit
attribute [local go_sem] odr cdr
def BothI (W1 : World) (p sz : Nat) (S : List (Nat × Sr)) (i : Nat) (wr : World) : Prop := ∃ v rr R, RbAt W1.heap.size wr p sz v rr R ∧ RB S R i []
def BothK (W1 : World) (p sz : Nat) (S : List (Nat × Sr)) (i id : Nat) (l : List Sm) (wr : World) : Prop := ∃ v rr R, RbAt W1.heap.size wr p sz v rr R ∧ RB S R i [id] ∧ getS R id = putL sz l
theorem BothI.ov {W1 w w' : World} {p sz : Nat} {S : List (Nat × Sr)} {i : Nat} (h : BothI W1 p sz S i w) (ho : ∃ e, w' = over w e) : BothI W1 p sz S i w' := by
 obtain ⟨v, rr, R, h1, h2⟩ := h; exact ⟨v, rr, R, RbAt.ov h1 ho, h2⟩
theorem BothK.ov {W1 w w' : World} {p sz : Nat} {S : List (Nat × Sr)} {i id : Nat} {l : List Sm} (h : BothK W1 p sz S i id l w) (ho : ∃ e, w' = over w e) : BothK W1 p sz S i id l w' := by
 obtain ⟨v, rr, R, h1, h2⟩ := h; exact ⟨v, rr, R, RbAt.ov h1 ho, h2⟩
theorem BothI.start {W1 w : World} {p sz : Nat} {S : List (Nat × Sr)} (hn : (S.map (·.1)).Nodup) {i id : Nat} (hi : i < S.length) (hid : S[i].1 = id) (h : BothI W1 p sz S i w) : BothK W1 p sz S i id [] w := by
 obtain ⟨v, rr, R, h1, h2⟩ := h; refine ⟨v, rr, R, h1, h2.weak _, ?_⟩; rw [← hid]; exact RB.zero hn hi h2
theorem BothK.stop_ {W1 w : World} {p sz : Nat} {S : List (Nat × Sr)} {i id : Nat} (hi : i < S.length) (hid : S[i].1 = id) {l : List Sm} (hl : S[i].2 = putL sz l) (h : BothK W1 p sz S i id l w) : BothI W1 p sz S (i + 1) w := by
 obtain ⟨v, rr, R, h1, h2, h3⟩ := h; subst hid; exact ⟨v, rr, R, h1, RB.next hi h2 (by rw [h3, hl])⟩
theorem putL_ne (sz : Nat) (l : List Sm) : ∀ c ∈ (putL sz l).cl, c ≠ [] := by
 have : ∀ (l : List Sm) (s : Sr), (∀ c ∈ s.cl, c ≠ []) → ∀ c ∈ (l.foldl (fun s x => s.put sz x) s).cl, c ≠ [] := by
  intro l
  induction l with
  | nil => intro s h; exact h
  | cons x l ih =>
   intro s h; refine ih _ ?_; show ∀ c ∈ (s.put sz x).cl, c ≠ []
   unfold Sr.put; split
   · intro c hc; rcases List.mem_append.1 hc with h1 | h1
     · exact h c h1
     · rw [List.mem_singleton] at h1; subst h1; simp
   · exact h
 exact this l Sr.zero (by simp [Sr.zero])
theorem cl_le2 {s : Sr} (h : ∀ c ∈ s.cl, c ≠ []) : s.cl.length ≤ s.all.length := by
 have : ∀ l : List (List Sm), (∀ c ∈ l, c ≠ []) → l.length ≤ l.flatten.length := by
  intro l
  induction l with
  | nil => intro _; simp
  | cons c l ih =>
   intro h; have h1 := ih (fun x hx => h x (by simp [hx])); have h2 : 0 < c.length := List.length_pos_iff.2 (h c (by simp)); simp only [List.length_cons, List.flatten_cons, List.length_append]; omega
 have h1 := this s.cl h; unfold Sr.all; rw [List.length_append]; omega
theorem both_put {W1 w : World} {p sz : Nat} {S : List (Nat × Sr)} (hn : (S.map (·.1)).Nodup) (hsl : S.length ≤ 60) {i id : Nat} (hi : i < S.length) (hid_ : S[i].1 = id) {l : List Sm} {x : Sm} (hl : l.length ≤ 60) (hcl : (putL sz l).cl.length ≤ 60) (hm : ∀ l' y, l = l' ++ [y] → y.t < x.t) (ho : ∃ e, w = over W1 e) (h : BothK W1 p sz S i id l w) :
    Calls Tryz.prog 8 #[.pointer (some ⟨p, 0, none⟩), .int .u32 (id : Nat), .agg #[.int .i64 x.t, .int .u64 (x.v : Nat)]] w fun en w' => en = .returned (.int .i64 0) ∧ (∃ e, w' = over W1 e) ∧ BothK W1 p sz S i id (l ++ [x]) w' := by
  obtain ⟨v, rr, R, h1, h2, h3⟩ := h; have hlen : rr.length ≤ 61 := by
   have := h2.len (by omega); have := h1.len; simp at *; omega
  have hle : W1.heap.size ≤ w.heap.size := by obtain ⟨e, rfl⟩ := ho; simp
  refine (rbput_any h1 hle id (.inl (by omega)) (by omega) h3 (by rw [putL_all]; omega) (by omega) x (by rw [putL_all]; exact hm)).mono ?_; rintro en w' ⟨rfl, v', rr', hc, hr⟩; refine ⟨rfl, Chg.ov ho hc (fun k hk => ?_), v', rr', _, hr, ?_, ?_⟩
  · rcases List.mem_cons.1 hk with rfl | hk
    · exact h1.lo
    · exact (Own.lt h1.row (by simpa using hk)).1
  · subst hid_; exact RB.put hn hi h2 _
  · rw [rset_get h1.sort, putL_snoc]
end
end Go.Proofs.YtnffcckhdedhpaaGreatDoor
