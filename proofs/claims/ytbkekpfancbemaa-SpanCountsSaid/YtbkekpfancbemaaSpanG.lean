/- Walks: draymanlaw23.known. -/
import Derived.Test.YtbkekpfancbemaaSpanQ
namespace Go.Proofs.Ytbkekpfancbemaa
set_option linter.unusedVariables false
set_option linter.unusedSimpArgs false
open Go.RowKit

theorem known_1 : addS [] ⟨5, 7⟩ = [⟨5, 7⟩] ∧ okSp [] ⟨5, 7⟩ = true := by decide
theorem known_2 : addS [⟨5, 7⟩] ⟨8, 9⟩ = [⟨5, 9⟩] ∧ okSp [⟨5, 7⟩] ⟨8, 9⟩ = true := by decide
theorem known_3 : dropS [⟨5, 9⟩] ⟨6, 6⟩ = [⟨5, 5⟩, ⟨7, 9⟩] ∧ okSp [⟨5, 9⟩] ⟨6, 6⟩ = true := by decide
theorem known_4 : countV [⟨5, 5⟩, ⟨7, 9⟩] = .tuple #[.int .u64 4, .bool true] := by
  have h : soundB [⟨5, 5⟩, ⟨7, 9⟩] = true := by decide
  have h2 : cntW [⟨5, 5⟩, ⟨7, 9⟩] = 4 := by simp [cntW, cnt, IntKind.wrap_u64]
  simp [countV, h, h2]

set_option maxHeartbeats 2000000 in
theorem known_any (w : World) : Calls Try.prog 30 #[] w (Ret w (.bool true)) := by
  have HA : Hid (∀ W, Calls Try.prog 32 #[.slice none 0 0, .agg #[.int .i64 5, .int .i64 7]] W (SpRes .u16 0 [⟨5, 7⟩] W)) := fun W => by
    have h := add_any [] (by simp) ⟨5, 7⟩ (by unfold Sp.wf; simp) none 0 W (Sl.nil W) (by simp)
    rw [known_1.1, known_1.2] at h
    exact h
  have HB : Hid (∀ a c W, SlS W a c [⟨5, 7⟩] → Calls Try.prog 32 #[.slice a 1 c, .agg #[.int .i64 8, .int .i64 9]] W (SpRes .u16 0 [⟨5, 9⟩] W)) := fun a c W hs => by
    have h := add_any [⟨5, 7⟩] (by intro x hx; simp at hx; subst hx; unfold Sp.wf; simp) ⟨8, 9⟩ (by unfold Sp.wf; simp) a c W hs (by simp)
    rw [known_2.1, known_2.2] at h
    exact h
  have HC : Hid (∀ a c W, SlS W a c [⟨5, 9⟩] → Calls Try.prog 34 #[.slice a 1 c, .agg #[.int .i64 6, .int .i64 6]] W (SpRes .u16 0 [⟨5, 5⟩, ⟨7, 9⟩] W)) := fun a c W hs => by
    have h := drop_any [⟨5, 9⟩] (by intro x hx; simp at hx; subst hx; unfold Sp.wf; simp) ⟨6, 6⟩ (by unfold Sp.wf; simp) a c W hs (by simp)
    rw [known_3.1, known_3.2] at h
    exact h
  have HD : Hid (∀ a c W, SlS W a c [⟨5, 5⟩, ⟨7, 9⟩] → Calls Try.prog 38 #[.slice a 2 c] W (Ret W (.tuple #[.int .u64 4, .bool true]))) := fun a c W hs => by
    have h := count_any [⟨5, 5⟩, ⟨7, 9⟩] (by intro x hx; simp at hx; rcases hx with rfl | rfl <;> (unfold Sp.wf; simp)) a c W hs
    rw [known_4] at h
    exact h
  have HE : Hid (∀ a c b d W, SlS W a c [⟨5, 9⟩] → SlS W b d [⟨5, 9⟩] → Calls Try.prog 36 #[.slice a 1 c, .slice b 1 d] W (Ret W (.bool true))) := fun a c b d W h1 h2 => same_any [⟨5, 9⟩] [⟨5, 9⟩] a b c d W h1 h2
  have HF : Hid (∀ a c b d W, SlS W a c [⟨5, 5⟩, ⟨7, 9⟩] → SlS W b d [⟨5, 5⟩, ⟨7, 9⟩] → Calls Try.prog 36 #[.slice a 2 c, .slice b 2 d] W (Ret W (.bool true))) := fun a c b d W h1 h2 => same_any [⟨5, 5⟩, ⟨7, 9⟩] [⟨5, 5⟩, ⟨7, 9⟩] a b c d W h1 h2
  have HL : Hid (∀ (W : World) (n : Nat), n = W.heap.size → SlS (W.alloc (.cells #[.int .i64 5, .int .i64 9] 53)) (some ⟨n, 0, none⟩) 1 [⟨5, 9⟩]) := fun W n hn => Sl.lit_new (xs := [(⟨5, 9⟩ : Sp)]) Sp.cs_len hn (by unfold maxLen; simp)
  have HM : Hid (∀ (W : World) (n : Nat), n = W.heap.size → SlS (W.alloc (.cells #[.int .i64 5, .int .i64 5, .int .i64 7, .int .i64 9] 53)) (some ⟨n, 0, none⟩) 2 [⟨5, 5⟩, ⟨7, 9⟩]) := fun W n hn => Sl.lit_new (xs := [(⟨5, 5⟩ : Sp), ⟨7, 9⟩]) Sp.cs_len hn (by unfold maxLen; simp)
  go_enter Try.func30, Try.ntmps30
  go_wp2_with (first
    | (go_at_call 32; (with_reducible refine (HA.out _).mono ?_); rintro _ _ ⟨⟨e1, rfl⟩, v1, rfl, o1⟩; obtain ⟨a1, c1, rfl, s1⟩ := Own.slice Sp.cs_len o1; clear o1)
    | (go_at_call 32; (with_reducible refine (HB.out _ _ _ s1).mono ?_); rintro _ _ ⟨⟨e2, rfl⟩, v2, rfl, o2⟩; obtain ⟨a2, c2, rfl, s2⟩ := Own.slice Sp.cs_len o2; clear o2)
    | (go_at_call 34; (with_reducible refine (HC.out _ _ _ s2).mono ?_); rintro _ _ ⟨⟨e3, rfl⟩, v3, rfl, o3⟩; obtain ⟨a3, c3, rfl, s3⟩ := Own.slice Sp.cs_len o3; clear o3)
    | (go_at_call 38; (with_reducible refine (HD.out _ _ _ s3).mono ?_); rintro _ _ ⟨⟨e4, rfl⟩, rfl⟩)
    | (go_at_call 36; (with_reducible refine (HE.out _ _ _ _ _ (by repeat (first | with_reducible exact s2 | with_reducible refine Sl.over ?_ _ | with_reducible refine Sl.alloc ?_ _ | with_reducible refine Sl.drew ?_ | exact s2)) (HL.out _ _ (by simp))).mono ?_); rintro _ _ ⟨⟨e5, rfl⟩, rfl⟩)
    | (go_at_call 36; (with_reducible refine (HF.out _ _ _ _ _ (by repeat (first | with_reducible exact s3 | with_reducible refine Sl.over ?_ _ | with_reducible refine Sl.alloc ?_ _ | with_reducible refine Sl.drew ?_ | exact s3)) (HM.out _ _ (by simp))).mono ?_); rintro _ _ ⟨⟨e6, rfl⟩, rfl⟩))
  go_ret
  exact ⟨(by (try unfold Ov); repeat (first | with_reducible exact ex_over | with_reducible exact over_self _ | with_reducible refine ex_into ?_ _ | with_reducible refine ex_alloc ?_ _ | with_reducible refine ex_drew ?_ | ((with_reducible refine ex_setCell ?_ ?_ _); rotate_left; (first | omega | (simp; done) | (simp; omega))) | exact ex_over)), rfl⟩
end Go.Proofs.Ytbkekpfancbemaa
