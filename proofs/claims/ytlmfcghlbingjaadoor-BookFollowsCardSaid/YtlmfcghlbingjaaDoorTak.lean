/- Walks: a book's Take, Fits. -/
import Derived.Test.YtlmfcghlbingjaaDoorBru
import Derived.Test.YtlmfcghlbingjaaDoorBrv
import Derived.Test.YtlmfcghlbingjaaDoorHE
namespace Go.Proofs.YtlmfcghlbingjaaDoor
set_option linter.unusedVariables false
set_option linter.unusedSimpArgs false
open Go.RowKit
attribute [local go_sem] over_drew chg_drew

/-- What a frame comes to: there is such an answer. -/
theorem brCase_ex {w : World} (l0 : List Bool) (hl0 : l0.length ≤ 4000) (s : Sr) (sz : Nat) (f : Fi) (hf : FiOk w f) : ∃ er cs, BrCase l0 s sz f er cs := by
  by_cases hs : soundB f.bs f.N = true
  · obtain ⟨lf, h1, h2⟩ := sound_list hf.lt hs
    have hll : (l0 ++ lf).length ≤ 700000 := by
      have := hf.len
      rw [h1, pack_length] at this
      unfold nb at this
      rw [List.length_append]; omega
    obtain ⟨xs, e, hr⟩ := runC_ex (l0 ++ lf) hll
    have he : e = 0 ∨ e = 61 := by rcases hr.fin with ⟨h, _⟩ | ⟨h, _⟩ <;> omega
    rcases he with rfl | rfl
    · by_cases hk : xs.length = f.ct ∧ f.pn < f.ct ∧ f.ct ≤ sz ∧ (s.some = true → ∀ h : 0 < xs.length, s.ahead < xs[0].t)
      · exact ⟨0, xs, .inr ⟨lf, xs, 0, h1, h2, hr, .inr (.inr ⟨rfl, rfl, rfl, hk.1, hk.2.1, hk.2.2.1, hk.2.2.2⟩)⟩⟩
      · refine ⟨61, [], .inr ⟨lf, xs, 0, h1, h2, hr, .inr (.inl ⟨rfl, rfl, rfl, ?_⟩)⟩⟩
        by_cases g1 : xs.length = f.ct
        · right
          refine ⟨g1, ?_⟩
          by_cases g2 : f.ct ≤ f.pn
          · exact .inl g2
          · right
            refine ⟨by omega, ?_⟩
            by_cases g3 : sz < f.ct
            · exact .inl g3
            · right
              refine ⟨by omega, ?_⟩
              by_cases g4 : s.some = true
              · refine ⟨g4, ?_⟩
                have hx : 0 < xs.length := by omega
                refine ⟨hx, ?_⟩
                rcases Int.lt_or_le s.ahead xs[0].t with g5 | g5
                · exact absurd ⟨g1, by omega, by omega, fun _ _ => g5⟩ hk
                · exact g5
              · exact absurd ⟨g1, by omega, by omega, fun h => absurd h g4⟩ hk
        · exact .inl g1
    · exact ⟨61, [], .inr ⟨lf, xs, 61, h1, h2, hr, .inl ⟨rfl, rfl, rfl⟩⟩⟩
  · exact ⟨61, [], .inl ⟨rfl, rfl, by simpa using hs⟩⟩
theorem runC_wf {L : List Bool} {xs : List Sm} {e : Nat} (h : RunC L xs e) : ∀ x ∈ xs, x.wf := h.rd.wf
theorem brCase_ok {w : World} {l0 : List Bool} {s : Sr} {sz : Nat} (hsz : sz ≤ 24) {f : Fi} {er : Nat} {cs : List Sm} (h : BrCase l0 s sz f er cs) : er = 61 ∧ cs = [] ∨ er = 0 ∧ ChkOk cs ∧ cs.length = f.ct ∧ f.pn < f.ct ∧ f.ct ≤ sz ∧ (s.some = true → ∀ h : 0 < cs.length, s.ahead < cs[0].t) ∧ ∃ lf, f.bs = pack lf ∧ f.N = (lf.length : Nat) ∧ bitsC En.zero cs = l0 ++ lf := by
  rcases h with ⟨rfl, rfl, _⟩ | ⟨lf, xs, e, h1, h2, hr, ⟨rfl, rfl, _⟩ | ⟨_, rfl, rfl, _⟩ | ⟨rfl, rfl, rfl, g1, g2, g3, g4⟩⟩
  · exact .inl ⟨rfl, rfl⟩
  · exact .inl ⟨rfl, rfl⟩
  · exact .inl ⟨rfl, rfl⟩
  · exact .inr ⟨rfl, ⟨by omega, hr.rd.wf, hr.rd.good⟩, g1, g2, g3, g4, lf, h1, h2, hr.whole⟩
/-- The answer to a frame at a series. -/
def TakeB (s : Sr) (sz : Nat) (f : Fi) (er : Nat) (cs : List Sm) : Prop :=
  (f.fr ≠ s.fin ∧ f.fr ≠ ⟨s.cl.length, 0, 0⟩ ∧ er = 122 ∧ cs = []) ∨ (f.fr = s.fin ∧ BrCase (bitsC En.zero s.op) s sz f er cs) ∨ (f.fr ≠ s.fin ∧ f.fr = ⟨s.cl.length, 0, 0⟩ ∧ BrCase [] s sz f er cs)
theorem takeB_ex {w : World} {s : Sr} (hok : SrOk s) (sz : Nat) (f : Fi) (hf : FiOk w f) : ∃ er cs, TakeB s sz f er cs := by
  by_cases h1 : f.fr = s.fin
  · obtain ⟨er, cs, h⟩ := brCase_ex (bitsC En.zero s.op) (by rw [blen_all]; have := blen_le hok.op s.op.length; omega) s sz f hf
    exact ⟨er, cs, .inr (.inl ⟨h1, h⟩)⟩
  · by_cases h2 : f.fr = ⟨s.cl.length, 0, 0⟩
    · obtain ⟨er, cs, h⟩ := brCase_ex [] (by simp) s sz f hf
      exact ⟨er, cs, .inr (.inr ⟨h1, h2, h⟩)⟩
    · exact ⟨122, [], .inl ⟨h1, h2, rfl, rfl⟩⟩
theorem brought_any {base bx : Nat} {w : World} {b n sz mb : Nat} {L : List Se} (h : BkAt base w b n sz mb L) (hT : TabW w) (hn : L.length < n) (hn2 : n ≤ 64) (hsz : sz ≤ 24) {x : Se} (hs : SeAt bx w x) (hcl : x.s.cl.length ≤ 900) (f : Fi) (hf : FiOk w f) {er : Nat} {cs : List Sm} (hc : TakeB x.s sz f er cs) :
    Calls Tryd.prog 34 #[.pointer (some ⟨b, 0, none⟩), .pointer (some ⟨x.sp, 0, none⟩), f.v] w (BrPost w f.cl er cs) := by
  rcases hc with ⟨h1, h2, rfl, rfl⟩ | ⟨h1, hc⟩ | ⟨h1, h2, hc⟩
  · exact brought_122 h hn hn2 hs hcl f hf h1 h2
  · exact brought_u h hT hn hn2 hsz hs hcl f hf h1 hc
  · exact brought_v h hT hn hn2 hsz hs hcl f hf h1 h2 hc
/-- What a frame changes. -/
theorem takeB_fin {s : Sr} {sz : Nat} (hsz : sz ≤ 24) {f : Fi} {er : Nat} {cs : List Sm} (h : TakeB s sz f er cs) : (er = 122 ∨ er = 61) ∧ cs = [] ∨ er = 0 ∧ ChkOk cs ∧ cs ≠ [] ∧ cs.length = f.ct ∧ f.ct ≤ sz ∧ (s.some = true → ∀ h : 0 < cs.length, s.ahead < cs[0].t) := by
  have key : ∀ l0, BrCase l0 s sz f er cs → (er = 122 ∨ er = 61) ∧ cs = [] ∨ er = 0 ∧ ChkOk cs ∧ cs ≠ [] ∧ cs.length = f.ct ∧ f.ct ≤ sz ∧ (s.some = true → ∀ h : 0 < cs.length, s.ahead < cs[0].t) := fun l0 hb => by
    rcases brCase_ok (w := default) hsz hb with ⟨h1, h2⟩ | ⟨h1, h2, h3, h4, h5, h6, _⟩
    · exact .inl ⟨.inr h1, h2⟩
    · exact .inr ⟨h1, h2, by intro e; rw [e] at h3; simp at h3; omega, h3, h5, h6⟩
  rcases h with ⟨_, _, h3, h4⟩ | ⟨_, hb⟩ | ⟨_, _, hb⟩
  · exact .inl ⟨.inl h3, h4⟩
  · exact key _ hb
  · exact key _ hb
end Go.Proofs.YtlmfcghlbingjaaDoor
