import Derived.Test.YtnihngljmmbenaaGreatDoorSA
import Derived.Test.YtnihngljmmbenaaGreatDoorSB
import Derived.Test.YtnihngljmmbenaaGreatDoorSC
import Derived.Test.YtnihngljmmbenaaGreatDoorLC
namespace Go.Proofs.YtnihngljmmbenaaGreatDoor
set_option linter.unusedVariables false
set_option linter.unusedSimpArgs false
section
open Go.RowKit

def PlM (m : List (Nat × Value)) (f : Nat → Pl) : Prop := ∀ k, (kGet m k).getD (.agg #[.int .u32 0, .int .u32 0, .int .u32 0]) = .agg #[.int .u32 ((f k).chunk : Nat), .int .u32 ((f k).bits : Nat), .int .u32 ((f k).count : Nat)]
theorem PlM.nil : PlM [] fun _ => Pl.zero := fun _ => rfl
theorem PlM.put {m : List (Nat × Value)} {f : Nat → Pl} (h : PlM m f) (u : Nat) (p : Pl) : PlM (kPut m u (.agg #[.int .u32 (p.chunk : Nat), .int .u32 (p.bits : Nat), .int .u32 (p.count : Nat)])) (fset f u p) := by
  intro k
  rw [kget_put]
  unfold fset
  split
  · rfl
  · exact h k
theorem pl_zero_run (w : World) : (zeroValue 42).run Tryz.prog w = .ok (.agg #[.int .u32 0, .int .u32 0, .int .u32 0]) w := by kernel_rfl
def sndF (p pw pt mt mc ms : Nat) (Fw : List Nat) : List Nat := p :: pt :: mt :: mc :: ms :: Fw
structure SdAt (base : Nat) (w : World) (p pw pt mt mc ms : Nat) (Fw : List Nat) (st : Sd) : Prop where
  blk : Blk w p [.pointer (some ⟨pw, 0, none⟩), .pointer (some ⟨pt, 0, none⟩), .int .u32 (st.e : Nat), .int .u64 (st.now : Nat), .map (some mc), .map (some ms)] 98
  win : WinAt base w pw st.most st.ws Fw
  ok : winOk st.most st.ws
  tm : ∃ m, TmAt w pt mt st.tk m st.ts
  cm : ∃ m, MapK w mc e32 m ∧ PlM m st.come
  sm : ∃ m, MapK w ms e32 m ∧ PlM m st.sent
  nd : [p, pt, mt, mc, ms].Nodup
  nw : ∀ k ∈ [p, pt, mt, mc, ms], k ∉ Fw
  lo : ∀ k ∈ [p, pt, mt, mc, ms], base ≤ k
theorem SdAt.lt {base : Nat} {w : World} {p pw pt mt mc ms : Nat} {Fw : List Nat} {st : Sd} (h : SdAt base w p pw pt mt mc ms Fw st) : ∀ k ∈ sndF p pw pt mt mc ms Fw, base ≤ k ∧ k < w.heap.size := by
  obtain ⟨m, hm⟩ := h.tm
  obtain ⟨mm, hc, _⟩ := h.cm
  obtain ⟨mn, hs, _⟩ := h.sm
  intro k hk
  simp only [sndF, List.mem_cons] at hk
  have hlo := h.lo
  rcases hk with rfl | rfl | rfl | rfl | rfl | hk
  · exact ⟨hlo _ (by simp), h.blk.lt⟩
  · exact ⟨hlo _ (by simp), hm.blk.lt⟩
  · exact ⟨hlo _ (by simp), MapK.lt hm.mp⟩
  · exact ⟨hlo _ (by simp), MapK.lt hc⟩
  · exact ⟨hlo _ (by simp), MapK.lt hs⟩
  · exact h.win.lt k hk
theorem SdAt.chg {base : Nat} {w w' : World} {p pw pt mt mc ms : Nat} {Fw G : List Nat} {st : Sd} (h : SdAt base w p pw pt mt mc ms Fw st) (hc : Chg G w w') (hd : ∀ k ∈ sndF p pw pt mt mc ms Fw, k ∉ G) : SdAt base w' p pw pt mt mc ms Fw st := by
  obtain ⟨m, hm⟩ := h.tm
  obtain ⟨mm, hcm, hcp⟩ := h.cm
  obtain ⟨mn, hs, hsp⟩ := h.sm
  have g : ∀ k ∈ [p, pt, mt, mc, ms], k ∉ G := fun k hk => hd k (by simp only [sndF, List.mem_cons] at hk ⊢; simp at hk; omega)
  exact ⟨h.blk.chg hc (g _ (by simp)), h.win.chg hc (fun k hk => hd k (by simp [sndF, hk])), h.ok, ⟨m, hm.chg hc (g _ (by simp)) (g _ (by simp))⟩, ⟨mm, MapK.chg hcm hc (g _ (by simp)), hcp⟩, ⟨mn, MapK.chg hs hc (g _ (by simp)), hsp⟩, h.nd, h.nw, h.lo⟩
theorem SdAt.ov {base : Nat} {w w' : World} {p pw pt mt mc ms : Nat} {Fw : List Nat} {st : Sd} (h : SdAt base w p pw pt mt mc ms Fw st) (hW : ∃ e, w' = over w e) : SdAt base w' p pw pt mt mc ms Fw st := h.chg (Chg.of_ov hW []) (by simp)
theorem SdAt.mono {base base' : Nat} {w : World} {p pw pt mt mc ms : Nat} {Fw : List Nat} {st : Sd} (h : SdAt base w p pw pt mt mc ms Fw st) (hb : base' ≤ base) : SdAt base' w p pw pt mt mc ms Fw st := by
  obtain ⟨v, h1, h2, h3, h4, h5⟩ := h.win
  exact ⟨h.blk, ⟨v, h1, h2.mono hb, Nat.le_trans hb h3, h4, h5⟩, h.ok, h.tm, h.cm, h.sm, h.nd, h.nw, fun k hk => Nat.le_trans hb (h.lo k hk)⟩
theorem SdAt.win_ {base : Nat} {w w' : World} {p pw pt mt mc ms : Nat} {Fw F' : List Nat} {st : Sd} (h : SdAt base w p pw pt mt mc ms Fw st) {ws : List Pc} (hc : Chg Fw w w') (hw : WinAt base w' pw st.most ws F') (hF : ∀ k ∈ F', k ∈ Fw ∨ w.heap.size ≤ k) (hk : winOk st.most ws) : SdAt base w' p pw pt mt mc ms F' { st with ws := ws } := by
  obtain ⟨m, hm⟩ := h.tm
  obtain ⟨mm, hcm, hcp⟩ := h.cm
  obtain ⟨mn, hs, hsp⟩ := h.sm
  have g := h.nw
  refine ⟨h.blk.chg hc (g _ (by simp)), hw, hk, ⟨m, hm.chg hc (g _ (by simp)) (g _ (by simp))⟩, ⟨mm, MapK.chg hcm hc (g _ (by simp)), hcp⟩, ⟨mn, MapK.chg hs hc (g _ (by simp)), hsp⟩, h.nd, fun k hk hm => ?_, h.lo⟩
  have hl := (h.lt k (by simp only [sndF, List.mem_cons] at hk ⊢; simp at hk; omega)).2
  rcases hF k hm with h1 | h1
  · exact g k hk h1
  · omega
theorem SdAt.tm_ {base : Nat} {w w' : World} {p pw pt mt mc ms : Nat} {Fw : List Nat} {st : Sd} (h : SdAt base w p pw pt mt mc ms Fw st) {m : List (Nat × Value)} {ts : List Tm} (hc : Chg [mt] w w') (ht : TmAt w' pt mt st.tk m ts) : SdAt base w' p pw pt mt mc ms Fw { st with ts := ts } := by
  obtain ⟨mm, hcm, hcp⟩ := h.cm
  obtain ⟨mn, hs, hsp⟩ := h.sm
  have g := h.nw
  have n := h.nd
  simp at n
  exact ⟨h.blk.chg hc (by simp; omega), h.win.chg hc (fun k hk => by simp; rintro rfl; exact g _ (by simp) hk), h.ok, ⟨m, ht⟩, ⟨mm, MapK.chg hcm hc (by simp; omega), hcp⟩, ⟨mn, MapK.chg hs hc (by simp; omega), hsp⟩, h.nd, h.nw, h.lo⟩
theorem SdAt.cm_ {base : Nat} {w w' : World} {p pw pt mt mc ms : Nat} {Fw : List Nat} {st : Sd} (h : SdAt base w p pw pt mt mc ms Fw st) {m : List (Nat × Value)} {f : Nat → Pl} (hc : Chg [mc] w w') (ht : MapK w' mc e32 m) (hp : PlM m f) : SdAt base w' p pw pt mt mc ms Fw { st with come := f } := by
  obtain ⟨mt', hm⟩ := h.tm
  obtain ⟨mn, hs, hsp⟩ := h.sm
  have g := h.nw
  have n := h.nd
  simp at n
  exact ⟨h.blk.chg hc (by simp; omega), h.win.chg hc (fun k hk => by simp; rintro rfl; exact g _ (by simp) hk), h.ok, ⟨mt', hm.chg hc (by simp; omega) (by simp; omega)⟩, ⟨m, ht, hp⟩, ⟨mn, MapK.chg hs hc (by simp; omega), hsp⟩, h.nd, h.nw, h.lo⟩
theorem SdAt.sm_ {base : Nat} {w w' : World} {p pw pt mt mc ms : Nat} {Fw : List Nat} {st : Sd} (h : SdAt base w p pw pt mt mc ms Fw st) {m : List (Nat × Value)} {f : Nat → Pl} (hc : Chg [ms] w w') (ht : MapK w' ms e32 m) (hp : PlM m f) : SdAt base w' p pw pt mt mc ms Fw { st with sent := f } := by
  obtain ⟨mt', hm⟩ := h.tm
  obtain ⟨mn, hs, hsp⟩ := h.cm
  have g := h.nw
  have n := h.nd
  simp at n
  exact ⟨h.blk.chg hc (by simp; omega), h.win.chg hc (fun k hk => by simp; rintro rfl; exact g _ (by simp) hk), h.ok, ⟨mt', hm.chg hc (by simp; omega) (by simp; omega)⟩, ⟨mn, MapK.chg hs hc (by simp; omega), hsp⟩, ⟨m, ht, hp⟩, h.nd, h.nw, h.lo⟩
theorem SdAt.now_ {base : Nat} {w w' : World} {p pw pt mt mc ms : Nat} {Fw : List Nat} {st : Sd} (h : SdAt base w p pw pt mt mc ms Fw st) {n : Nat} (hc : Chg [p] w w') (hb : Blk w' p [.pointer (some ⟨pw, 0, none⟩), .pointer (some ⟨pt, 0, none⟩), .int .u32 (st.e : Nat), .int .u64 (n : Nat), .map (some mc), .map (some ms)] 98) : SdAt base w' p pw pt mt mc ms Fw { st with now := n } := by
  obtain ⟨mt', hm⟩ := h.tm
  obtain ⟨mm, hcm, hcp⟩ := h.cm
  obtain ⟨mn, hs, hsp⟩ := h.sm
  have g := h.nw
  have n := h.nd
  simp at n
  exact ⟨hb, h.win.chg hc (fun k hk => by simp; rintro rfl; exact g _ (by simp) hk), h.ok, ⟨mt', hm.chg hc (by simp; omega) (by simp; omega)⟩, ⟨mm, MapK.chg hcm hc (by simp; omega), hcp⟩, ⟨mn, MapK.chg hs hc (by simp; omega), hsp⟩, h.nd, h.nw, h.lo⟩
structure SdTo (base : Nat) (w : World) (p pw pt mt mc ms : Nat) (Fw : List Nat) (st' : Sd) (w' : World) (F' : List Nat) : Prop where
  ch : Chg (sndF p pw pt mt mc ms Fw) w w'
  at_ : SdAt base w' p pw pt mt mc ms F' st'
  nw : ∀ k ∈ F', k ∈ Fw ∨ w.heap.size ≤ k
theorem SdTo.refl {base : Nat} {w : World} {p pw pt mt mc ms : Nat} {Fw : List Nat} {st : Sd} (h : SdAt base w p pw pt mt mc ms Fw st) : SdTo base w p pw pt mt mc ms Fw st w Fw := ⟨Chg.refl _ _, h, fun _ h => .inl h⟩
theorem SdTo.trans {base : Nat} {w w1 w2 : World} {p pw pt mt mc ms : Nat} {Fw F1 F2 : List Nat} {st1 st2 : Sd} (h : SdTo base w p pw pt mt mc ms Fw st1 w1 F1) (k : SdTo base w1 p pw pt mt mc ms F1 st2 w2 F2) : SdTo base w p pw pt mt mc ms Fw st2 w2 F2 := by
  have hs := h.ch.size
  have hn : ∀ i ∈ sndF p pw pt mt mc ms F1, i ∈ sndF p pw pt mt mc ms Fw ∨ w.heap.size ≤ i := fun i hi => by
    simp only [sndF, List.mem_cons] at hi ⊢
    rcases hi with hi | hi | hi | hi | hi | hi
    · exact .inl (by simp [hi])
    · exact .inl (by simp [hi])
    · exact .inl (by simp [hi])
    · exact .inl (by simp [hi])
    · exact .inl (by simp [hi])
    · rcases h.nw i hi with h1 | h1
      · exact .inl (by simp [h1])
      · exact .inr h1
  refine ⟨Chg.then h.ch k.ch hn, k.at_, fun i hi => ?_⟩
  rcases k.nw i hi with h1 | h1
  · exact h.nw i h1
  · exact .inr (by omega)
theorem SdTo.ov {base : Nat} {w w1 w2 : World} {p pw pt mt mc ms : Nat} {Fw F1 : List Nat} {st1 : Sd} (h : SdTo base w p pw pt mt mc ms Fw st1 w1 F1) (k : ∃ e, w2 = over w1 e) : SdTo base w p pw pt mt mc ms Fw st1 w2 F1 := ⟨h.ch.trans (Chg.of_ov k _), h.at_.ov k, h.nw⟩
theorem SdTo.ov0 {base : Nat} {w0 w w1 : World} {p pw pt mt mc ms : Nat} {Fw F1 : List Nat} {st1 : Sd} (k : ∃ e, w = over w0 e) (h : SdTo base w p pw pt mt mc ms Fw st1 w1 F1) : SdTo base w0 p pw pt mt mc ms Fw st1 w1 F1 := by
  have hs : w0.heap.size ≤ w.heap.size := by obtain ⟨e, rfl⟩ := k; simp
  exact ⟨(Chg.of_ov k _).trans h.ch, h.at_, fun i hi => by rcases h.nw i hi with h1 | h1; exact .inl h1; exact .inr (by omega)⟩
theorem SdTo.sz {base : Nat} {w w1 : World} {p pw pt mt mc ms : Nat} {Fw F1 : List Nat} {st1 : Sd} (h : SdTo base w p pw pt mt mc ms Fw st1 w1 F1) : w.heap.size ≤ w1.heap.size := h.ch.size
theorem SdTo.apart {base : Nat} {w w1 : World} {p pw pt mt mc ms : Nat} {Fw F1 : List Nat} {st1 : Sd} (h : SdTo base w p pw pt mt mc ms Fw st1 w1 F1) {k : Nat} (hk : k < w.heap.size) (hn : k ∉ sndF p pw pt mt mc ms Fw) : k ∉ sndF p pw pt mt mc ms F1 := by
  intro hm
  simp only [sndF, List.mem_cons] at hm hn
  rcases hm with hm | hm | hm | hm | hm | hm
  · exact hn (by simp [hm])
  · exact hn (by simp [hm])
  · exact hn (by simp [hm])
  · exact hn (by simp [hm])
  · exact hn (by simp [hm])
  · rcases h.nw k hm with h1 | h1
    · exact hn (by simp [h1])
    · omega
structure Gx where
  t : Ft
  a : Option Addr
  cap : Nat
def Gx.cs (ep : Nat) (x : Gx) : List Value := [.int .u8 (x.t.kd : Nat), .int .u32 (ep : Nat), .int .u32 (x.t.f.series : Nat), .int .u32 (x.t.f.from_.chunk : Nat), .int .u32 (x.t.f.from_.bits : Nat), .int .u32 (x.t.f.from_.count : Nat), .int .u32 (x.t.f.count : Nat), .bool x.t.f.closed, .int .u64 (x.t.f.sum : Nat), .slice x.a (pack x.t.f.bits).length x.cap, .int .i64 (x.t.f.bits.length : Nat)]
abbrev Gx.bv (x : Gx) : Value := .slice x.a (pack x.t.f.bits).length x.cap
theorem Gx.cs_len (ep : Nat) (x : Gx) : (x.cs ep).length = 11 := rfl
theorem Gx.cs_one (ep : Nat) (x : Gx) : ∀ u ∈ x.cs ep, u.oneCell' = true := by intro u hu; simp [Gx.cs] at hu; rcases hu with rfl | rfl | rfl | rfl | rfl | rfl | rfl | rfl | rfl | rfl | rfl <;> rfl
def grsB (v : Value) (l : List Gx) : List Nat := v.ownBlock.toList ++ l.flatMap fun x => x.bv.ownBlock.toList
structure GrsAt (ep base : Nat) (w : World) (v : Value) (l : List Gx) : Prop where
  row : Own base 48 11 (Gx.cs ep) w v l
  bits : ∀ x ∈ l, OwnB base w x.bv (pack x.t.f.bits)
  apart : ∀ x ∈ l, ∀ g, x.bv.ownBlock = some g → v.ownBlock ≠ some g
theorem GrsAt.lt {ep base : Nat} {w : World} {v : Value} {l : List Gx} (h : GrsAt ep base w v l) : ∀ k ∈ grsB v l, base ≤ k ∧ k < w.heap.size := by
  intro k hk
  rcases List.mem_append.1 hk with hk | hk
  · exact Own.lt h.row (by simpa using hk)
  · obtain ⟨x, hx, hk⟩ := List.mem_flatMap.1 hk
    exact Own.lt (h.bits x hx) (by simpa using hk)
theorem GrsAt.chg {ep base : Nat} {w W : World} {v : Value} {l : List Gx} {F : List Nat} (h : GrsAt ep base w v l) (hc : Chg F w W) (hd : ∀ k ∈ grsB v l, k ∉ F) : GrsAt ep base W v l :=
  ⟨Own.chg h.row hc (fun g hg => hd g (by simp [grsB, hg])), fun x hx => Own.chg (h.bits x hx) hc (fun g hg => hd g (List.mem_append.2 (.inr (List.mem_flatMap.2 ⟨x, hx, by simp [hg]⟩)))), h.apart⟩
theorem GrsAt.ov {ep base : Nat} {w W : World} {v : Value} {l : List Gx} (h : GrsAt ep base w v l) (hW : ∃ e, W = over w e) : GrsAt ep base W v l := h.chg (Chg.of_ov hW []) (by simp)
theorem GrsAt.mono {ep base base' : Nat} {w : World} {v : Value} {l : List Gx} (h : GrsAt ep base w v l) (hb : base' ≤ base) : GrsAt ep base' w v l := ⟨h.row.mono hb, fun x hx => (h.bits x hx).mono hb, h.apart⟩
theorem GrsAt.nil (ep : Nat) (w : World) (base : Nat) : GrsAt ep base w (.slice none 0 0) [] := ⟨Own.nil w, by simp, by simp⟩
theorem GrsAt.push {ep base b : Nat} {w w' : World} {v v' : Value} {l : List Gx} {x : Gx} (h : GrsAt ep base w v l) (hx : OwnB b w x.bv (pack x.t.f.bits)) (hb : base ≤ b) (hv : ∀ g, v.ownBlock = some g → g < b) (hc : Chg v.ownBlock.toList w w')
    (ho : Own base 48 11 (Gx.cs ep) w' v' (l ++ [x])) (hv' : v'.ownBlock = v.ownBlock ∨ ∃ g, v'.ownBlock = some g ∧ w.heap.size ≤ g) : GrsAt ep base w' v' (l ++ [x]) := by
  have hxa : ∀ g, x.bv.ownBlock = some g → v.ownBlock ≠ some g := fun g hg he => by have := (Own.lt hx hg).1; have := hv g he; omega
  have hne : ∀ y ∈ l ++ [x], (∀ g, y.bv.ownBlock = some g → v.ownBlock ≠ some g) ∧ OwnB base w y.bv (pack y.t.f.bits) := by
    intro y hy
    rcases List.mem_append.1 hy with hy | hy
    · exact ⟨h.apart y hy, h.bits y hy⟩
    · simp at hy; subst hy; exact ⟨hxa, hx.mono hb⟩
  refine ⟨ho, fun y hy => Own.chg (hne y hy).2 hc (fun g hg hm => (hne y hy).1 g hg (by simpa using hm)), fun y hy g hg => ?_⟩
  rcases hv' with hv' | ⟨g', hg', hl'⟩
  · rw [hv']; exact (hne y hy).1 g hg
  · rw [hg']; intro he; have := (Own.lt (hne y hy).2 hg).2; simp at he; omega
theorem grs_sep {ep base b : Nat} {w w' : World} {v v' : Value} {l : List Gx} {x : Gx} {Fw : List Nat} (hn : ∀ k ∈ grsB v l, k ∉ Fw) (hx : OwnB b w x.bv (pack x.t.f.bits)) (hb : ∀ k ∈ Fw, k < b) (hlt : ∀ k ∈ Fw, k < w.heap.size) (hv' : v'.ownBlock = v.ownBlock ∨ ∃ g, v'.ownBlock = some g ∧ w.heap.size ≤ g) : ∀ k ∈ grsB v' (l ++ [x]), k ∉ Fw := by
  intro k hk hm
  simp only [grsB, List.flatMap_append, List.mem_append, List.flatMap_cons, List.flatMap_nil, List.append_nil] at hk
  rcases hk with hk | hk | hk
  · rcases hv' with h1 | ⟨g, h1, h2⟩
    · exact hn k (by simp only [grsB, List.mem_append]; left; rw [← h1]; exact hk) hm
    · rw [h1] at hk
      simp at hk
      have := hlt k hm
      omega
  · exact hn k (by simp only [grsB, List.mem_append]; right; exact hk) hm
  · have := (Own.lt hx (g := k) (by simpa using hk)).1
    have := hb k hm
    omega
def SdV (base : Nat) (w : World) (p pw pt mt mc ms : Nat) (Fw : List Nat) (st' : Sd) (v : Value) (en : Ending) (w' : World) : Prop :=
  en = .returned v ∧ ∃ F', SdTo base w p pw pt mt mc ms Fw st' w' F'
def SdFr (base : Nat) (w : World) (p pw pt mt mc ms : Nat) (Fw : List Nat) (ep : Nat) (fs : List Ft) (st' : Sd) (out : Value → Value) (en : Ending) (w' : World) : Prop :=
  ∃ v l F', en = .returned (out v) ∧ l.map Gx.t = fs ∧ GrsAt ep w.heap.size w' v l ∧ SdTo base w p pw pt mt mc ms Fw st' w' F' ∧ ∀ k ∈ grsB v l, k ∉ F'
end
section
open Go.RowKit

theorem sndF_w {p pw pt mt mc ms k : Nat} {Fw : List Nat} (h : k ∈ Fw) : k ∈ sndF p pw pt mt mc ms Fw := by simp [sndF, h]
theorem SdTo.sm {base : Nat} {w w1 w2 : World} {p pw pt mt mc ms : Nat} {Fw F1 : List Nat} {st1 : Sd} (h : SdTo base w p pw pt mt mc ms Fw st1 w1 F1) {m : List (Nat × Value)} {f : Nat → Pl} (hc : Chg [ms] w1 w2) (ht : MapK w2 ms e32 m) (hp : PlM m f) : SdTo base w p pw pt mt mc ms Fw { st1 with sent := f } w2 F1 :=
  h.trans ⟨hc.mono (fun i hi => .inl (by simp at hi; simp [sndF, hi])), h.at_.sm_ hc ht hp, fun _ h => .inl h⟩
theorem SdTo.cm {base : Nat} {w w1 w2 : World} {p pw pt mt mc ms : Nat} {Fw F1 : List Nat} {st1 : Sd} (h : SdTo base w p pw pt mt mc ms Fw st1 w1 F1) {m : List (Nat × Value)} {f : Nat → Pl} (hc : Chg [mc] w1 w2) (ht : MapK w2 mc e32 m) (hp : PlM m f) : SdTo base w p pw pt mt mc ms Fw { st1 with come := f } w2 F1 :=
  h.trans ⟨hc.mono (fun i hi => .inl (by simp at hi; simp [sndF, hi])), h.at_.cm_ hc ht hp, fun _ h => .inl h⟩
theorem SdTo.win {base : Nat} {w W w2 : World} {p pw pt mt mc ms : Nat} {Fw : List Nat} {st : Sd} (h : SdAt base w p pw pt mt mc ms Fw st) (hW : ∃ e, W = over w e) {v : Value} {en : Ending} {ws : List Pc} (hk : winOk st.most ws) (hd : WDid base W pw st.most Fw v ws en w2) : en = .returned v ∧ ∃ F', SdTo base w p pw pt mt mc ms Fw { st with ws := ws } w2 F' ∧ Chg Fw W w2 := by
  obtain ⟨rfl, m, F', rfl, hw, hF⟩ := hd
  have hc := chg_chg Fw W m
  exact ⟨rfl, F', SdTo.ov0 hW ⟨hc.mono (fun i hi => .inl (sndF_w hi)), (h.ov hW).win_ hc hw hF hk, hF⟩, hc⟩
theorem SdTo.tm {base : Nat} {w W w2 : World} {p pw pt mt mc ms : Nat} {Fw : List Nat} {st : Sd} (h : SdAt base w p pw pt mt mc ms Fw st) (hW : ∃ e, W = over w e) {v : Value} {en : Ending} {ts : List Tm} (hd : TmDid W pt mt st.tk ts v en w2) : en = .returned v ∧ SdTo base w p pw pt mt mc ms Fw { st with ts := ts } w2 Fw ∧ Chg [mt] W w2 := by
  obtain ⟨rfl, m, hc, ht⟩ := hd
  exact ⟨rfl, SdTo.ov0 hW ⟨hc.mono (fun i hi => .inl (by simp at hi; simp [sndF, hi])), (h.ov hW).tm_ hc ht, fun _ h => .inl h⟩, hc⟩
def WinTo (base : Nat) (w : World) (p pw pt mt mc ms : Nat) (Fw : List Nat) (st' : Sd) (W : World) (en : Ending) (w2 : World) : Prop := (∃ v, en = .returned v) ∧ ∃ F', SdTo base w p pw pt mt mc ms Fw st' w2 F' ∧ Chg Fw W w2
def TmTo (base : Nat) (w : World) (p pw pt mt mc ms : Nat) (Fw : List Nat) (st' : Sd) (W : World) (en : Ending) (w2 : World) : Prop := (∃ v, en = .returned v) ∧ SdTo base w p pw pt mt mc ms Fw st' w2 Fw ∧ Chg [mt] W w2
section
variable {base : Nat} {w : World} {p pw pt mt mc ms : Nat} {Fw : List Nat} {st : Sd}
theorem SdAt.winW (h : SdAt base w p pw pt mt mc ms Fw st) {W : World} (hW : ∃ e, W = over w e) : WinAt base W pw st.most st.ws Fw := (h.ov hW).win
theorem sz_over {w W : World} (hW : ∃ e, W = over w e) : w.heap.size ≤ W.heap.size := by obtain ⟨e, rfl⟩ := hW; simp
theorem sd_add (h : SdAt base w p pw pt mt mc ms Fw st) (hb : base ≤ w.heap.size) (x : Pc) (hx : x.wf) (W : World) (hW : ∃ e, W = over w e) : Calls Tryz.prog 83 #[.pointer (some ⟨pw, 0, none⟩), x.v] W (WinTo base w p pw pt mt mc ms Fw { st with ws := addW st.most st.ws x } W) := by
  refine (winAdd_any (h.winW hW) h.ok x hx (Nat.le_trans hb (sz_over hW))).mono (fun en w2 hd => ?_)
  obtain ⟨rfl, F', h1, h2⟩ := SdTo.win h hW (winOk_add h.ok x) hd
  exact ⟨⟨_, rfl⟩, F', h1, h2⟩
theorem sd_drop (h : SdAt base w p pw pt mt mc ms Fw st) (u : Nat) (W : World) (hW : ∃ e, W = over w e) : Calls Tryz.prog 93 #[.pointer (some ⟨pw, 0, none⟩), .int .u32 (u : Nat)] W (WinTo base w p pw pt mt mc ms Fw { st with ws := outW (dropQ (u : Nat)) st.ws } W) := by
  refine (winDrop_any (h.winW hW) h.ok (u : Nat)).mono (fun en w2 hd => ?_)
  obtain ⟨rfl, F', h1, h2⟩ := SdTo.win h hW (winOk_out h.ok _) hd
  exact ⟨⟨_, rfl⟩, F', h1, h2⟩
theorem sd_ack (h : SdAt base w p pw pt mt mc ms Fw st) (u : Nat) (to : Pl) (W : World) (hW : ∃ e, W = over w e) : Calls Tryz.prog 54 #[.pointer (some ⟨pw, 0, none⟩), .int .u32 (u : Nat), .agg #[.int .u32 (to.chunk : Nat), .int .u32 (to.bits : Nat), .int .u32 (to.count : Nat)]] W (WinTo base w p pw pt mt mc ms Fw { st with ws := outW (ackQ (u : Nat) to.w) st.ws } W) := by
  refine (winAck_any (h.winW hW) h.ok (u : Nat) to.w).mono (fun en w2 hd => ?_)
  obtain ⟨rfl, F', h1, h2⟩ := SdTo.win h hW (winOk_out h.ok _) hd
  exact ⟨⟨_, rfl⟩, F', h1, h2⟩
theorem sd_room (h : SdAt base w p pw pt mt mc ms Fw st) (W : World) (hW : ∃ e, W = over w e) : Calls Tryz.prog 41 #[.pointer (some ⟨pw, 0, none⟩)] W (Ret W (.bool st.room)) := winRoom_any (h.winW hW)
theorem sd_in (h : SdAt base w p pw pt mt mc ms Fw st) (W : World) (hW : ∃ e, W = over w e) : Calls Tryz.prog 60 #[.pointer (some ⟨pw, 0, none⟩)] W (Ret W (.int .i64 (sumN st.ws))) := winIn_any (h.winW hW)
theorem sd_start (h : SdAt base w p pw pt mt mc ms Fw st) (u : Nat) (hn : st.now + st.tk < 18446744073709551616) (W : World) (hW : ∃ e, W = over w e) : Calls Tryz.prog 43 #[.pointer (some ⟨pt, 0, none⟩), .int .u32 (u : Nat), .int .u64 (st.now : Nat)] W (TmTo base w p pw pt mt mc ms Fw { st with ts := tstart st.ts u st.now st.tk } W) := by
  obtain ⟨m, ht⟩ := h.tm
  refine (tStart_any (ht.ov hW) u st.now hn).mono (fun en w2 hd => ?_)
  obtain ⟨rfl, h1, h2⟩ := SdTo.tm h hW hd
  exact ⟨⟨_, rfl⟩, h1, h2⟩
theorem sd_again (h : SdAt base w p pw pt mt mc ms Fw st) (u : Nat) (hn : st.now + st.tk < 18446744073709551616) (W : World) (hW : ∃ e, W = over w e) : Calls Tryz.prog 58 #[.pointer (some ⟨pt, 0, none⟩), .int .u32 (u : Nat), .int .u64 (st.now : Nat)] W (TmTo base w p pw pt mt mc ms Fw { st with ts := tput st.ts ⟨u, 0, st.now + st.tk⟩ } W) := by
  obtain ⟨m, ht⟩ := h.tm
  refine (tAgain_any (ht.ov hW) u st.now hn).mono (fun en w2 hd => ?_)
  obtain ⟨rfl, h1, h2⟩ := SdTo.tm h hW hd
  exact ⟨⟨_, rfl⟩, h1, h2⟩
theorem sd_stop (h : SdAt base w p pw pt mt mc ms Fw st) (u : Nat) (W : World) (hW : ∃ e, W = over w e) : Calls Tryz.prog 57 #[.pointer (some ⟨pt, 0, none⟩), .int .u32 (u : Nat)] W (TmTo base w p pw pt mt mc ms Fw { st with ts := tdel st.ts u } W) := by
  obtain ⟨m, ht⟩ := h.tm
  refine (tStop_any (ht.ov hW) u).mono (fun en w2 hd => ?_)
  obtain ⟨rfl, h1, h2⟩ := SdTo.tm h hW hd
  exact ⟨⟨_, rfl⟩, h1, h2⟩
end
theorem SdAt.here {base : Nat} {w : World} {p pw pt mt mc ms : Nat} {Fw : List Nat} {st : Sd} (h : SdAt base w p pw pt mt mc ms Fw st) : p < w.heap.size ∧ mc < w.heap.size ∧ ms < w.heap.size := ⟨(h.lt p (by simp [sndF])).2, (h.lt mc (by simp [sndF])).2, (h.lt ms (by simp [sndF])).2⟩
end
section
open Go.RowKit
attribute [local go_sem] over_drew chg_drew

set_option maxHeartbeats 1000000 in
theorem sWay_any {base : Nat} {w : World} {p pw pt mt mc ms : Nat} {Fw : List Nat} {st : Sd} (h : SdAt base w p pw pt mt mc ms Fw st) (hb : base ≤ w.heap.size) (kd ep ct sm : Int) (cl : Bool) (fa : Option Addr) (fn fc u n : Nat) (fr to : Pl) (hx : (⟨(u : Nat), fr.w, to.w, (n : Nat)⟩ : Pc).wf) :
    Calls Tryz.prog 42 #[.pointer (some ⟨p, 0, none⟩), .agg #[.int .u8 kd, .int .u32 ep, .int .u32 (u : Nat), .int .u32 (fr.chunk : Nat), .int .u32 (fr.bits : Nat), .int .u32 (fr.count : Nat), .int .u32 ct, .bool cl, .int .u64 sm, .slice fa fn fc, .int .i64 (n : Nat)], .agg #[.int .u32 (to.chunk : Nat), .int .u32 (to.bits : Nat), .int .u32 (to.count : Nat)]] w
      (SdV base w p pw pt mt mc ms Fw (st.way u fr to n) (.tuple #[])) := by
  have HA0 := sd_add h hb ⟨(u : Nat), fr.w, to.w, (n : Nat)⟩ hx
  obtain ⟨r0, r1, r2⟩ := fr
  obtain ⟨t0, t1, t2⟩ := to
  have HA := hid HA0
  have H := hid h
  have HP : Hid (∀ {m : List (Nat × Value)} {f : Nat → Pl}, PlM m f → PlM (kPut m u (.agg #[.int .u32 (t0 : Nat), .int .u32 (t1 : Nat), .int .u32 (t2 : Nat)])) (fset f u ⟨t0, t1, t2⟩)) := hid (fun hh => hh.put u ⟨t0, t1, t2⟩)
  have HST : Hid (st.way u ⟨r0, r1, r2⟩ ⟨t0, t1, t2⟩ n = { ({ st with ws := addW st.most st.ws ⟨(u : Nat), (⟨r0, r1, r2⟩ : Pl).w, (⟨t0, t1, t2⟩ : Pl).w, (n : Nat)⟩ } : Sd) with sent := fset st.sent u ⟨t0, t1, t2⟩ }) := hid rfl
  rw [HST.out]
  obtain ⟨st1, hst1⟩ : ∃ s : Sd, ({ st with ws := addW st.most st.ws ⟨(u : Nat), (⟨r0, r1, r2⟩ : Pl).w, (⟨t0, t1, t2⟩ : Pl).w, (n : Nat)⟩ } : Sd) = s := ⟨_, rfl⟩
  have hse : st.sent = st1.sent := by rw [← hst1]
  rw [hse]
  simp only [hst1] at HA ⊢
  have c0 := h.blk.cell 0 rfl
  have hl := h.here.1
  have HFl : Hid (∀ k ∈ Fw, k < w.heap.size) := hid (fun k hk => (h.lt k (sndF_w hk)).2)
  simp only [Pl.w, Pc.v] at HA
  have HS1 := hid hst1
  clear h HA0 HST hst1 hse hx
  go_enter Tryz.func42, Tryz.ntmps42
  go_wp2_with fail
  refine M2.wp_region_mix [13] 13 (by kernel_rfl) (by kernel_rfl) (by decide) ?_
  simp only [M2.td]
  with_reducible refine M2.mixL_quiet 13 (by kernel_rfl) ?_
  simp only [M2.td]
  repeat (go_big_quiet_step (fail))
  with_reducible refine wpQuiet_nil ?_
  with_reducible refine M2.mixL_nil ?_
  with_reducible refine M2.mixL_eff (by decide) ?_
  go_wp2_with ((go_at_call 83; (with_reducible refine (HA.out _ ovA).mono ?_); rintro _ w2 ⟨⟨v2, rfl⟩, F', hto, hc⟩; have T2 := hid hto; have B1 : Hid (Blk w2 w.heap.size [.int .u8 kd, .int .u32 ep, .int .u32 (u : Nat), .int .u32 (r0 : Nat), .int .u32 (r1 : Nat), .int .u32 (r2 : Nat), .int .u32 ct, .bool cl, .int .u64 sm, .slice fa fn fc, .int .i64 (n : Nat)] 48) := hid (Blk.chg (by exact blA) hc (fun hm => by have := HFl.out _ hm; omega)); have B2 : Hid (Blk w2 (w.heap.size + 1) [.int .u32 (t0 : Nat), .int .u32 (t1 : Nat), .int .u32 (t2 : Nat)] 42) := hid (Blk.chg (by exact blA) hc (fun hm => by have := HFl.out _ hm; omega)); clear hto hc))
  refine M2.MixQ.mk trivial ?_
  with_reducible refine M2.mixL_nil ?_
  have d5 := T2.out.at_.blk.cell 5 rfl
  have dl := T2.out.at_.here.1
  have e2 := B1.out.cell 2 rfl
  have e0 := B2.out.cell 0 rfl
  have e1 := B2.out.cell 1 rfl
  have e3 := B2.out.cell 2 rfl
  have el := B1.out.lt
  have el2 := B2.out.lt
  obtain ⟨m, hm1, hm2⟩ := T2.out.at_.sm
  have HM := hid hm1
  have HM2 := hid hm2
  clear hm1 hm2 c0
  go_wp2_with fail
  refine M2.wp_region_mix [7] 7 (by kernel_rfl) (by kernel_rfl) (by decide) ?_
  simp only [M2.td]
  with_reducible refine M2.mixL_quiet 7 (by kernel_rfl) ?_
  simp only [M2.td]
  repeat (go_big_quiet_step (fail))
  with_reducible refine wpQuiet_nil ?_
  with_reducible refine M2.mixL_nil ?_
  with_reducible refine M2.mixL_eff (by decide) ?_
  go_wp2_with ((at_mapUpdate; refine wpList_kupdate rfl (.tmp 23) (.tmp 25) (.tmp 26) 96 rfl 24 42 (key_u32 (by kernel_rfl)) (by kernel_rfl) ms m u (.agg #[.int .u32 (t0 : Nat), .int .u32 (t1 : Nat), .int .u32 (t2 : Nat)]) rfl rfl rfl (MapK.chg (F := []) HM.out (by exact chA) (by simp)) ?_; intro m3 hm3))
  refine M2.MixQ.mk trivial ?_
  with_reducible refine M2.mixL_nil ?_
  rw [chg_drew] at hm3
  have hh := SdTo.sm T2.out (chg_chg _ _ _) hm3 (HP.out HM2.out)
  rw [← HS1.out] at hh
  rw [← HS1.out]
  refine bodyPost_end (results_none (by kernel_rfl) _ _ _) rfl ⟨rfl, F', hh⟩
set_option maxHeartbeats 1000000 in
theorem sBack_any {base : Nat} {w : World} {p pw pt mt mc ms : Nat} {Fw : List Nat} {st : Sd} (h : SdAt base w p pw pt mt mc ms Fw st) (u : Nat) :
    Calls Tryz.prog 55 #[.pointer (some ⟨p, 0, none⟩), .int .u32 (u : Nat)] w (SdV base w p pw pt mt mc ms Fw (st.back u) (.tuple #[])) := by
  have HA := hid (sd_drop h u)
  obtain ⟨cu, hcu⟩ : ∃ q, st.come u = q := ⟨_, rfl⟩
  have HST : Hid (st.back u = { ({ st with ws := outW (dropQ (u : Nat)) st.ws } : Sd) with sent := fset st.sent u cu }) := hid (by rw [← hcu]; rfl)
  rw [HST.out]
  obtain ⟨st1, hst1⟩ : ∃ s : Sd, ({ st with ws := outW (dropQ (u : Nat)) st.ws } : Sd) = s := ⟨_, rfl⟩
  have hse : st.sent = st1.sent := by rw [← hst1]
  have hco : st1.come u = cu := by rw [← hst1]; exact hcu
  rw [hse]
  simp only [hst1] at HA ⊢
  obtain ⟨t0, t1, t2⟩ := cu
  have HCO := hid hco
  have HP : Hid (∀ {m : List (Nat × Value)} {f : Nat → Pl}, PlM m f → PlM (kPut m u (.agg #[.int .u32 (t0 : Nat), .int .u32 (t1 : Nat), .int .u32 (t2 : Nat)])) (fset f u ⟨t0, t1, t2⟩)) := hid (fun hh => hh.put u ⟨t0, t1, t2⟩)
  have c0 := h.blk.cell 0 rfl
  have hl := h.here.1
  have HS1 := hid hst1
  clear h HST hst1 hse hcu hco
  go_enter Tryz.func55, Tryz.ntmps55
  go_wp2_with (go_at_call 93; (with_reducible refine (HA.out _ ovA).mono ?_); rintro _ w2 ⟨⟨v2, rfl⟩, F', hto, hc⟩; have T2 := hid hto; clear hto hc)
  have d5 := T2.out.at_.blk.cell 5 rfl
  have d4 := T2.out.at_.blk.cell 4 rfl
  have dl := T2.out.at_.here.1
  obtain ⟨m, hm1, hm2⟩ := T2.out.at_.sm
  have HM := hid hm1
  have HM2 := hid hm2
  obtain ⟨mm, hk1, hk2⟩ := T2.out.at_.cm
  have HK := hid hk1
  have HV : Hid ((if false = true then (.tuple #[(kGet mm u).getD (.agg #[.int .u32 0, .int .u32 0, .int .u32 0]), .bool (kGet mm u).isSome] : Value) else (kGet mm u).getD (.agg #[.int .u32 0, .int .u32 0, .int .u32 0])) = .agg #[.int .u32 (t0 : Nat), .int .u32 (t1 : Nat), .int .u32 (t2 : Nat)]) := hid (by have := hk2 u; rw [HCO.out] at this; exact this)
  clear hm1 hm2 c0 hk1 hk2
  go_wp2_with fail
  refine M2.wp_region_mix [10, 11] 11 (by kernel_rfl) (by kernel_rfl) (by decide) ?_
  simp only [M2.td]
  with_reducible refine M2.mixL_quiet 10 (by kernel_rfl) ?_
  simp only [M2.td]
  repeat (go_big_quiet_step (fail))
  with_reducible refine wpQuiet_nil ?_
  with_reducible refine M2.mixL_eff (by decide) ?_
  go_wp2_with ((first | (at_lookup; refine wpList_klookup rfl (.tmp 18) (.tmp 19) 96 false rfl 24 42 (key_u32 (by kernel_rfl)) (by kernel_rfl) (.agg #[.int .u32 0, .int .u32 0, .int .u32 0]) (pl_zero_run _) mc mm rfl (MapK.chg (F := []) HK.out (by exact chA) (by simp)) u rfl _ HV.out ?_) | (at_mapUpdate; refine wpList_kupdate rfl (.tmp 13) (.tmp 14) (.tmp 20) 96 rfl 24 42 (key_u32 (by kernel_rfl)) (by kernel_rfl) ms m u (.agg #[.int .u32 (t0 : Nat), .int .u32 (t1 : Nat), .int .u32 (t2 : Nat)]) rfl rfl rfl (MapK.chg (F := []) HM.out (by exact chA) (by simp)) ?_; intro m3 hm3)))
  refine M2.MixQ.mk ovA ?_
  with_reducible refine M2.mixL_nil ?_
  with_reducible refine M2.mixL_eff (by decide) ?_
  go_wp2_with ((first | (at_lookup; refine wpList_klookup rfl (.tmp 18) (.tmp 19) 96 false rfl 24 42 (key_u32 (by kernel_rfl)) (by kernel_rfl) (.agg #[.int .u32 0, .int .u32 0, .int .u32 0]) (pl_zero_run _) mc mm rfl (MapK.chg (F := []) HK.out (by exact chA) (by simp)) u rfl _ HV.out ?_) | (at_mapUpdate; refine wpList_kupdate rfl (.tmp 13) (.tmp 14) (.tmp 20) 96 rfl 24 42 (key_u32 (by kernel_rfl)) (by kernel_rfl) ms m u (.agg #[.int .u32 (t0 : Nat), .int .u32 (t1 : Nat), .int .u32 (t2 : Nat)]) rfl rfl rfl (MapK.chg (F := []) HM.out (by exact chA) (by simp)) ?_; intro m3 hm3)))
  refine M2.MixQ.mk trivial ?_
  with_reducible refine M2.mixL_nil ?_
  rw [chg_drew] at hm3
  have hh := SdTo.sm T2.out (chg_chg _ _ _) hm3 (HP.out HM2.out)
  rw [← HS1.out] at hh
  rw [← HS1.out]
  refine bodyPost_end (results_none (by kernel_rfl) _ _ _) rfl ⟨rfl, F', hh⟩
end
section
open Go.RowKit
attribute [local go_sem] over_drew chg_drew

def btw (n lo hi : Int) : Bool := decide (lo ≤ n) && decide (n ≤ hi)
theorem btw_any (n lo hi : Int) (w : World) : Calls Tryz.prog 40 #[.int .i64 n, .int .i64 lo, .int .i64 hi] w (Ret w (.bool (btw n lo hi))) := by
  cases h : decide (lo ≤ n)
  · have hb : btw n lo hi = false := by unfold btw; rw [h]; rfl
    have HB := hid hb
    clear hb
    go_enter Tryz.func40, Tryz.ntmps40
    go_wp2
    go_ret
    rw [HB.out]
    exact ⟨ovA, rfl⟩
  · have hb : btw n lo hi = decide (n ≤ hi) := by unfold btw; rw [h]; rfl
    have HB := hid hb
    clear hb
    go_enter Tryz.func40, Tryz.ntmps40
    go_wp2
    go_ret
    rw [HB.out]
    exact ⟨ovA, rfl⟩
structure Cf where
  s : Int
  b : Int
  c : Int
  w : Int
  t : Int
  d : Int
def Cf.v (x : Cf) : Value := .agg #[.int .i64 x.s, .int .i64 x.b, .int .i64 x.c, .int .i64 x.w, .int .i64 x.t, .int .i64 x.d]
def Cf.right (x : Cf) : Bool := btw x.s 1 64 && btw x.b 1 1073741824 && btw x.c 1 24 && btw x.w 1 1048576 && btw x.t 1 1000 && btw x.d 0 1048576
theorem right_any (x : Cf) (w : World) : Calls Tryz.prog 11 #[x.v] w (Ret w (.bool x.right)) := by
  obtain ⟨s, b, c, n, t, d⟩ := x
  unfold Cf.v Cf.right
  simp only
  have H1 := hid (fun W => btw_any s 1 64 W)
  have H2 := hid (fun W => btw_any b 1 1073741824 W)
  have H3 := hid (fun W => btw_any c 1 24 W)
  have H4 := hid (fun W => btw_any n 1 1048576 W)
  have H5 := hid (fun W => btw_any t 1 1000 W)
  have H6 := hid (fun W => btw_any d 0 1048576 W)
  generalize btw s 1 64 = b1 at *
  generalize btw b 1 1073741824 = b2 at *
  generalize btw c 1 24 = b3 at *
  generalize btw n 1 1048576 = b4 at *
  generalize btw t 1 1000 = b5 at *
  generalize btw d 0 1048576 = b6 at *
  cases b1
  · skip
    go_enter Tryz.func11, Tryz.ntmps11
    go_wp2_with (first | (go_at_call 40; (with_reducible refine (H1.out _).mono ?_); rintro _ _ ⟨⟨e1, rfl⟩, rfl⟩) | (go_at_call 40; (with_reducible refine (H2.out _).mono ?_); rintro _ _ ⟨⟨e2, rfl⟩, rfl⟩) | (go_at_call 40; (with_reducible refine (H3.out _).mono ?_); rintro _ _ ⟨⟨e3, rfl⟩, rfl⟩) | (go_at_call 40; (with_reducible refine (H4.out _).mono ?_); rintro _ _ ⟨⟨e4, rfl⟩, rfl⟩) | (go_at_call 40; (with_reducible refine (H5.out _).mono ?_); rintro _ _ ⟨⟨e5, rfl⟩, rfl⟩) | (go_at_call 40; (with_reducible refine (H6.out _).mono ?_); rintro _ _ ⟨⟨e6, rfl⟩, rfl⟩))
    go_ret
    exact ⟨ovA, rfl⟩
  · cases b2
    · skip
      go_enter Tryz.func11, Tryz.ntmps11
      go_wp2_with (first | (go_at_call 40; (with_reducible refine (H1.out _).mono ?_); rintro _ _ ⟨⟨e1, rfl⟩, rfl⟩) | (go_at_call 40; (with_reducible refine (H2.out _).mono ?_); rintro _ _ ⟨⟨e2, rfl⟩, rfl⟩) | (go_at_call 40; (with_reducible refine (H3.out _).mono ?_); rintro _ _ ⟨⟨e3, rfl⟩, rfl⟩) | (go_at_call 40; (with_reducible refine (H4.out _).mono ?_); rintro _ _ ⟨⟨e4, rfl⟩, rfl⟩) | (go_at_call 40; (with_reducible refine (H5.out _).mono ?_); rintro _ _ ⟨⟨e5, rfl⟩, rfl⟩) | (go_at_call 40; (with_reducible refine (H6.out _).mono ?_); rintro _ _ ⟨⟨e6, rfl⟩, rfl⟩))
      go_ret
      exact ⟨ovA, rfl⟩
    · cases b3
      · skip
        go_enter Tryz.func11, Tryz.ntmps11
        go_wp2_with (first | (go_at_call 40; (with_reducible refine (H1.out _).mono ?_); rintro _ _ ⟨⟨e1, rfl⟩, rfl⟩) | (go_at_call 40; (with_reducible refine (H2.out _).mono ?_); rintro _ _ ⟨⟨e2, rfl⟩, rfl⟩) | (go_at_call 40; (with_reducible refine (H3.out _).mono ?_); rintro _ _ ⟨⟨e3, rfl⟩, rfl⟩) | (go_at_call 40; (with_reducible refine (H4.out _).mono ?_); rintro _ _ ⟨⟨e4, rfl⟩, rfl⟩) | (go_at_call 40; (with_reducible refine (H5.out _).mono ?_); rintro _ _ ⟨⟨e5, rfl⟩, rfl⟩) | (go_at_call 40; (with_reducible refine (H6.out _).mono ?_); rintro _ _ ⟨⟨e6, rfl⟩, rfl⟩))
        go_ret
        exact ⟨ovA, rfl⟩
      · cases b4
        · skip
          go_enter Tryz.func11, Tryz.ntmps11
          go_wp2_with (first | (go_at_call 40; (with_reducible refine (H1.out _).mono ?_); rintro _ _ ⟨⟨e1, rfl⟩, rfl⟩) | (go_at_call 40; (with_reducible refine (H2.out _).mono ?_); rintro _ _ ⟨⟨e2, rfl⟩, rfl⟩) | (go_at_call 40; (with_reducible refine (H3.out _).mono ?_); rintro _ _ ⟨⟨e3, rfl⟩, rfl⟩) | (go_at_call 40; (with_reducible refine (H4.out _).mono ?_); rintro _ _ ⟨⟨e4, rfl⟩, rfl⟩) | (go_at_call 40; (with_reducible refine (H5.out _).mono ?_); rintro _ _ ⟨⟨e5, rfl⟩, rfl⟩) | (go_at_call 40; (with_reducible refine (H6.out _).mono ?_); rintro _ _ ⟨⟨e6, rfl⟩, rfl⟩))
          go_ret
          exact ⟨ovA, rfl⟩
        · cases b5
          · skip
            go_enter Tryz.func11, Tryz.ntmps11
            go_wp2_with (first | (go_at_call 40; (with_reducible refine (H1.out _).mono ?_); rintro _ _ ⟨⟨e1, rfl⟩, rfl⟩) | (go_at_call 40; (with_reducible refine (H2.out _).mono ?_); rintro _ _ ⟨⟨e2, rfl⟩, rfl⟩) | (go_at_call 40; (with_reducible refine (H3.out _).mono ?_); rintro _ _ ⟨⟨e3, rfl⟩, rfl⟩) | (go_at_call 40; (with_reducible refine (H4.out _).mono ?_); rintro _ _ ⟨⟨e4, rfl⟩, rfl⟩) | (go_at_call 40; (with_reducible refine (H5.out _).mono ?_); rintro _ _ ⟨⟨e5, rfl⟩, rfl⟩) | (go_at_call 40; (with_reducible refine (H6.out _).mono ?_); rintro _ _ ⟨⟨e6, rfl⟩, rfl⟩))
            go_ret
            exact ⟨ovA, rfl⟩
          · cases b6
            · skip
              go_enter Tryz.func11, Tryz.ntmps11
              go_wp2_with (first | (go_at_call 40; (with_reducible refine (H1.out _).mono ?_); rintro _ _ ⟨⟨e1, rfl⟩, rfl⟩) | (go_at_call 40; (with_reducible refine (H2.out _).mono ?_); rintro _ _ ⟨⟨e2, rfl⟩, rfl⟩) | (go_at_call 40; (with_reducible refine (H3.out _).mono ?_); rintro _ _ ⟨⟨e3, rfl⟩, rfl⟩) | (go_at_call 40; (with_reducible refine (H4.out _).mono ?_); rintro _ _ ⟨⟨e4, rfl⟩, rfl⟩) | (go_at_call 40; (with_reducible refine (H5.out _).mono ?_); rintro _ _ ⟨⟨e5, rfl⟩, rfl⟩) | (go_at_call 40; (with_reducible refine (H6.out _).mono ?_); rintro _ _ ⟨⟨e6, rfl⟩, rfl⟩))
              go_ret
              exact ⟨ovA, rfl⟩
            · skip
              go_enter Tryz.func11, Tryz.ntmps11
              go_wp2_with (first | (go_at_call 40; (with_reducible refine (H1.out _).mono ?_); rintro _ _ ⟨⟨e1, rfl⟩, rfl⟩) | (go_at_call 40; (with_reducible refine (H2.out _).mono ?_); rintro _ _ ⟨⟨e2, rfl⟩, rfl⟩) | (go_at_call 40; (with_reducible refine (H3.out _).mono ?_); rintro _ _ ⟨⟨e3, rfl⟩, rfl⟩) | (go_at_call 40; (with_reducible refine (H4.out _).mono ?_); rintro _ _ ⟨⟨e4, rfl⟩, rfl⟩) | (go_at_call 40; (with_reducible refine (H5.out _).mono ?_); rintro _ _ ⟨⟨e5, rfl⟩, rfl⟩) | (go_at_call 40; (with_reducible refine (H6.out _).mono ?_); rintro _ _ ⟨⟨e6, rfl⟩, rfl⟩))
              go_ret
              exact ⟨ovA, rfl⟩
end
end Go.Proofs.YtnihngljmmbenaaGreatDoor
