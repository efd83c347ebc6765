import Derived.Test.YtoolooffpphmdaaGreatDoorHJ
import Derived.Test.YtoolooffpphmdaaGreatDoorNF
namespace Go.Proofs.YtoolooffpphmdaaGreatDoor
set_option linter.unusedVariables false
set_option linter.unusedSimpArgs false
open Go.RowKit
attribute [local go_sem] odr cdr
theorem runC_of {xs : List Sm} (hx : ∀ s ∈ xs, s.wf) (hl : xs.length ≤ 1000000) (g : goodC En.zero xs) : RunC (bitsC En.zero xs) xs 0 :=
 ⟨⟨hx, (bitsZ_len hx hl).1, g, [], by simp⟩, .inl ⟨rfl, rfl⟩⟩
theorem all_good {xs : List Sm} (hx : ∀ s ∈ xs, s.wf) (hl : xs.length ≤ 4000) (g : goodC En.zero xs) (a : Option Addr) (c : Nat) (w : World) (hT : TabW w) (hs : SlB w a c (pack (bitsC En.zero xs))) :
    Calls Tryz.prog 47 #[bv a (pack (bitsC En.zero xs)).length c (bitsC En.zero xs).length] w (AllS w xs (knowC En.zero xs).v (.int .u16 0)) := by
  have hb := bitsZ_len hx (by omega); have h := call_any _ _ a c xs 0 (each_ok (by omega) a c (runC_of hx (by omega) g)) (by omega) w hT hs; rw [if_pos rfl, if_pos rfl] at h; exact h.mono fun _ _ h => h.s rfl rfl
end Go.Proofs.YtoolooffpphmdaaGreatDoor
