import Derived.Test.YtnffcckhdedhpaaGreatDoorPC
import Derived.Test.YtnffcckhdedhpaaGreatDoorPA
import Derived.Test.YtnffcckhdedhpaaGreatDoorHE
import Derived.Test.YtnffcckhdedhpaaGreatDoorKA
namespace Go.Proofs.YtnffcckhdedhpaaGreatDoor
set_option linter.unusedVariables false
set_option linter.unusedSimpArgs false
set_option maxRecDepth 100000
set_option maxHeartbeats 4000000
section
open Go.RowKit
abbrev gS1 : List (Nat × Sr) := [(5, ⟨[[⟨1, 2⟩]], []⟩)]
abbrev gSa : List (Nat × Sr) := [(5, ⟨[[⟨1, 2⟩], [⟨2, 2⟩]], []⟩)]
abbrev gSb : List (Nat × Sr) := [(5, ⟨[[⟨1, 2⟩], [⟨2, 3⟩]], []⟩)]
theorem g_put1 : putS 1 [] 5 ⟨1, 2⟩ = gS1 := by rfl
theorem g_puta : putS 1 gS1 5 ⟨2, 2⟩ = gSa := by rfl
theorem g_putb : putS 1 gS1 5 ⟨2, 3⟩ = gSb := by rfl
theorem g_may1 : (getS [] 5).may 1 := by simp [getS, Sr.may, Sr.zero]
theorem g_get1 : getS gS1 5 = ⟨[[⟨1, 2⟩]], []⟩ := by rfl
theorem g_may2 : (getS gS1 5).may 2 := by
 rw [g_get1]; unfold Sr.may; rw [if_pos rfl]; right; decide +kernel
abbrev gm1 : Nat := moreR 0 (bitsC En.zero [⟨1, 2⟩])
abbrev gma : Nat := moreR 0 (bitsC En.zero [⟨2, 2⟩])
abbrev gmb : Nat := moreR 0 (bitsC En.zero [⟨2, 3⟩])
theorem gm_ne : gma ≠ gmb := by decide +kernel
theorem g_frs {L : List Se} {x y : Sm} (h : bkOf L = [(5, ⟨[[x], [y]], []⟩)]) : frsB L 5 = [chF 5 0 [x] true, chF 5 1 [y] true] := by
 unfold frsB; rw [h]; rfl
theorem g_ids {L : List Se} {s : Sr} (h : bkOf L = [(5, s)]) : srtN (L.map (·.id)) = [5] := by
 have h1 : L.map (·.id) = (bkOf L).map (·.1) := by simp
 rw [h1, h]; simp [srtN]
def gLf (x y : Sm) : List Lf := [⟨5, 0, 1, moreR 0 (bitsC En.zero [x])⟩, ⟨5, 1, 1, moreR 0 (bitsC En.zero [y])⟩]
theorem g_lvs {L : List Se} {x y : Sm} (h : bkOf L = [(5, ⟨[[x], [y]], []⟩)]) : lvs L (srtN (L.map (·.id))) = gLf x y := by
 rw [g_ids h]; unfold lvs lvO; simp only [List.flatMap_cons, List.flatMap_nil, List.append_nil, g_frs h]; rfl
abbrev gA : List Lf := [⟨5, 0, 1, gm1⟩, ⟨5, 1, 1, gma⟩]
abbrev gB : List Lf := [⟨5, 0, 1, gm1⟩, ⟨5, 1, 1, gmb⟩]
theorem g_lvsA {L : List Se} (h : bkOf L = gSa) : lvs L (srtN (L.map (·.id))) = gA := by rw [g_lvs h]; rfl
theorem g_lvsB {L : List Se} (h : bkOf L = gSb) : lvs L (srtN (L.map (·.id))) = gB := by rw [g_lvs h]; rfl
theorem g_wfA : ∀ x ∈ gA, x.wf := by intro x hx; simp at hx; rcases hx with rfl | rfl <;> exact ⟨by simp, by simp, by simp, Nat.lt_trans (moreR_lt _ _) (by decide)⟩
theorem g_wfB : ∀ x ∈ gB, x.wf := by intro x hx; simp at hx; rcases hx with rfl | rfl <;> exact ⟨by simp, by simp, by simp, Nat.lt_trans (moreR_lt _ _) (by decide)⟩
theorem g_cl {S : List (Nat × Sr)} {s : Sr} (h : S = [(5, s)]) (hs : s.cl.length ≤ 900) (id : Nat) : (getS S id).cl.length ≤ 900 := by
 subst h; refine getS_mem (P := fun s => s.cl.length ≤ 900) (fun x hx => ?_) (by simp [Sr.zero]) id; simp at hx; subst hx; exact hs
theorem g_fnd0 (m : Nat) : fnd [⟨5, 0, 1, gm1⟩, ⟨5, 1, 1, m⟩] 5 0 = some ⟨5, 0, 1, gm1⟩ := by rfl
theorem g_fnd1 (m : Nat) : fnd [⟨5, 0, 1, gm1⟩, ⟨5, 1, 1, m⟩] 5 1 = some ⟨5, 1, 1, m⟩ := by rfl
theorem g_un0 : un gA gB 5 0 = false := by unfold un; rw [g_fnd0, g_fnd0]; simp
theorem g_un1 : un gA gB 5 1 = true := by
 unfold un; rw [g_fnd1, g_fnd1]; have := gm_ne; simp [this]
theorem g_min : minU gA gB (gA ++ gB) 5 = some 1 := by
 unfold minU stepU hit; simp only [List.cons_append, List.nil_append, List.foldl_cons, List.foldl_nil, g_un0, g_un1]; rfl
theorem g_idsU : idsU gA gB = [5] := by
 refine sort_uniq (idsU_sort _ _) (by simp) (fun s => ?_); rw [idsU_mem]
 constructor
 · intro h; obtain ⟨d, hd⟩ := Option.isSome_iff_exists.1 h; obtain ⟨⟨x, hx, h1, _⟩, _⟩ := minU_some _ _ _ _ _ hd; have h2 := (hit_iff.1 h1).1; simp at hx; rcases hx with rfl | rfl | rfl | rfl <;> simp at h2 <;> simp [h2]
 · intro h; simp at h; subst h; rw [g_min]; rfl
theorem g_ap : apL gA gB = [⟨5, 1, 1, 0⟩] := by
 unfold apL cntU; rw [g_idsU]; simp only [List.map_cons, List.map_nil, g_min, Option.getD_some, g_fnd1]; rfl
theorem g_lak {L : List Se} (h : bkOf L = gSa) : lak L gB (srtN (L.map (·.id))) = [chF 5 1 [⟨2, 2⟩] true] := by
 rw [g_ids h]; unfold lak lakO; simp only [List.flatMap_cons, List.flatMap_nil, List.append_nil, g_frs h]; have t0 : told gB (chF 5 0 [⟨1, 2⟩] true) = true := by
  unfold told; exact decide_eq_true (List.mem_cons_self)
 have t1 : told gB (chF 5 1 [⟨2, 2⟩] true) = false := by
  unfold told; refine decide_eq_false (fun h => ?_); have e : lfO (chF 5 1 [⟨2, 2⟩] true) = ⟨5, 1, 1, gma⟩ := rfl; rw [e] at h; have := gm_ne; simp at h; exact this h
 rw [List.dropWhile_cons, t0]; simp only [if_true]; rw [List.dropWhile_cons, t1]; simp
end
section
open Go.RowKit
attribute [local go_sem] odr cdr
attribute [local go_sem high] leaf_eqlN
def StepP (A A' : List (Nat × Sr)) (x : Sm) : Prop := ∀ (base b mb : Nat) (L : List Se) (W : World), BkAt base W b 1 1 mb L → bkOf L = A → base ≤ W.heap.size → TabW W →
  Calls Tryz.prog 23 #[.pointer (some ⟨b, 0, none⟩), .int .u32 5, .agg #[.int .i64 x.t, .int .u64 (x.v : Nat)]] W (BkPut W base b 1 1 mb L A')
theorem g_there {L : List Se} {s : Sr} (h : bkOf L = [(5, s)]) : ∃ i, ∃ h : i < L.length, L[i].id = 5 := by
 have hl : L.length = 1 := by rw [bk_len h]; rfl
 refine ⟨0, by omega, ?_⟩; have h1 := congrArg (fun l => l[0]?) h; simp [List.getElem?_eq_getElem (show 0 < L.length by omega)] at h1; exact h1.1
theorem step1 : StepP [] gS1 ⟨1, 2⟩ := fun base b mb L W h hL hb hT => by
 have hl : L.length = 0 := by rw [bk_len hL]; rfl
 refine (put_any h hb hT (by omega) (by omega) (by omega) (by omega) (id := 5) (by omega) (by rw [hL]; simp [getS, Sr.zero]) ⟨1, 2⟩ (kn_wf _ _ (by omega) (by omega))).mono (fun en w' hp => ?_); unfold PutB at hp; rw [hL, if_pos g_may1, g_put1] at hp; exact hp
theorem step2 {y : Sm} {S : List (Nat × Sr)} (hy : y.wf) (ht : y.t = 2) (hp : putS 1 gS1 5 y = S) : StepP gS1 S y := fun base b mb L W h hL hb hT => by
 have hl : L.length = 1 := by rw [bk_len hL]; rfl
 refine (put_there h hb hT (by omega) (by omega) (by omega) (id := 5) (g_there hL) (by rw [hL, g_get1]; simp) y hy).mono (fun en w' hq => ?_); unfold PutB at hq; rw [hL, ht, if_pos g_may2, hp] at hq; exact hq
def Two (w : World) (b1 b2 ba ma bb mb : Nat) (A B : List (Nat × Sr)) (W : World) : Prop := ∃ La Lb, BkAt b1 W ba 1 1 ma La ∧ BkAt b2 W bb 1 1 mb Lb ∧ bkOf La = A ∧ bkOf Lb = B ∧ (∀ k ∈ bkB ba ma La, k ∉ bkB bb mb Lb) ∧ w.heap.size ≤ b1 ∧ w.heap.size ≤ b2 ∧ ∃ e, W = over w e
theorem bkB_new {b n sz mb base : Nat} {w : World} {L L' : List Se} (_h : BkAt base w b n sz mb L) (hf : ∀ k ∈ bkF mb L', k ∈ bkF mb L ∨ w.heap.size ≤ k) (hd : ∀ k ∈ bkD L', k ∈ bkD L ∨ w.heap.size ≤ k) : ∀ k ∈ bkB b mb L', k ∈ bkB b mb L ∨ w.heap.size ≤ k := by
 intro k hk; simp only [bkB, List.mem_cons, List.mem_append] at hk ⊢; rcases hk with rfl | rfl | h1 | h1
 · simp
 · simp
 · rcases hf k (by simp only [bkF, List.mem_cons]; exact .inr h1) with h2 | h2
   · simp only [bkF, List.mem_cons] at h2; rcases h2 with h2 | h2
     · exact .inl (.inr (.inl h2))
     · exact .inl (.inr (.inr (.inl h2)))
   · exact .inr h2
 · rcases hd k h1 with h2 | h2
   · exact .inl (.inr (.inr (.inr h2)))
   · exact .inr h2
theorem Two.ov {w : World} {b1 b2 ba ma bb mb : Nat} {A B : List (Nat × Sr)} {W W' : World} (h : Two w b1 b2 ba ma bb mb A B W) (hW : ∃ e, W' = over W e) : Two w b1 b2 ba ma bb mb A B W' := by
 obtain ⟨La, Lb, h1, h2, h3, h4, h5, h6, h7, h8⟩ := h; exact ⟨La, Lb, bk_ov h1 hW, bk_ov h2 hW, h3, h4, h5, h6, h7, ov_tr h8 hW⟩
theorem Two.swap {w : World} {b1 b2 ba ma bb mb : Nat} {A B : List (Nat × Sr)} {W : World} (h : Two w b1 b2 ba ma bb mb A B W) : Two w b2 b1 bb mb ba ma B A W := by
 obtain ⟨La, Lb, h1, h2, h3, h4, h5, h6, h7, h8⟩ := h; exact ⟨Lb, La, h2, h1, h4, h3, fun k hk hm => h5 k hm hk, h7, h6, h8⟩
theorem two_put {w : World} {b1 b2 ba ma bb mb : Nat} {A A' B : List (Nat × Sr)} {W1 : World} {x : Sm} (hs : StepP A A' x) (h : Two w b1 b2 ba ma bb mb A B W1) (hT : TabW w) : ∀ W, (∃ e, W = over W1 e) →
    Calls Tryz.prog 23 #[.pointer (some ⟨ba, 0, none⟩), .int .u32 5, .agg #[.int .i64 x.t, .int .u64 (x.v : Nat)]] W (fun en w' => en = .returned (.int .u16 0) ∧ Two w b1 b2 ba ma bb mb A' B w') := by
  intro W hW; obtain ⟨La, Lb, h1, h2, h3, h4, h5, h6, h7, h8⟩ := h.ov hW; refine (hs b1 ba ma La W h1 h3 ?_ (TabW.ov hT h8)).mono ?_
  · have := (h1.blt ba (by simp [bkB])); omega
  · rintro en w' ⟨rfl, L2, hc, hb, hbs, hf, hd⟩; have hn := bkB_new h1 hf hd; refine ⟨rfl, L2, Lb, hb, h2.cg hc (fun k hk hm => h5 k (bkF_B hm) hk), hbs, h4, fun k hk hm => ?_, h6, h7, Chg.ov h8 hc (fun k hk => ?_)⟩
    · rcases hn k hk with h9 | h9
      · exact h5 k h9 hm
      · have := (h2.blt k hm).2; omega
    · have := (h1.blt k (bkF_B hk)).1; omega
theorem kn26_any (w : World) (hT : TabW w) : Calls Tryz.prog 5 #[] w (Ret w (.bool true)) := by
 have HN1 : Hid (∀ W, Calls Tryz.prog 22 #[.int .i64 1, .int .i64 1] W (NewPost W 1 1)) := hid (fun W => new_any 1 1 (by omega) (by omega) W); have HT := hid hT; have HAp0 : Hid (∀ (a1 a2 : Option Addr) (c1 c2 : Nat) W, SlL W a1 c1 gA → SlL W a2 c2 gB → Calls Tryz.prog 17 #[.slice a1 2 c1, .slice a2 2 c2] W (LfsPost W [⟨5, 1, 1, 0⟩])) := hid (fun a1 a2 c1 c2 W h1 h2 => by
  have k := apart_any gA gB (by simp) (by simp) g_wfA g_wfB a1 a2 c1 c2 W h1 h2; rw [g_ap] at k; exact k)
 obtain ⟨lx, hlx⟩ : ∃ l, gA = l := ⟨_, rfl⟩; obtain ⟨ly, hly⟩ : ∃ l, gB = l := ⟨_, rfl⟩; obtain ⟨lf, hlf⟩ : ∃ l, [chF 5 1 [⟨2, 2⟩] true] = l := ⟨_, rfl⟩; have HXL : Hid (lx.length = 2) := hid (by rw [← hlx]; rfl); have HYL : Hid (ly.length = 2) := hid (by rw [← hly]; rfl); have HFLn : Hid (lf.length = 1 ∧ ∀ x, lf = [x] → x.from_.chunk = 1) := hid (by rw [← hlf]; exact ⟨rfl, fun x hx => by injection hx with hx; rw [← hx]; rfl⟩); have HAp : Hid (∀ (a1 a2 : Option Addr) (c1 c2 : Nat) W, SlL W a1 c1 lx → SlL W a2 c2 ly → Calls Tryz.prog 17 #[.slice a1 2 c1, .slice a2 2 c2] W (LfsPost W [⟨5, 1, 1, 0⟩])) := hid (by rw [← hlx, ← hly]; exact HAp0.out); have HLX := hid hlx; have HLY := hid hly; have HLF := hid hlf; have HRt : Hid (∀ W, Calls Tryz.prog 15 #[.slice none 0 0] W (Ret W (.int .u64 0))) := hid (fun W => by
  have k := root_any [] (by simp) (by simp) none 0 W (Sl.nil _); rw [rootS_nil] at k; exact k)
 have hee : lfEq ⟨5, 1, 1, 0⟩ ⟨5, 1, 1, 0⟩ = true := rfl; clear hT HAp0 hlx hly hlf
 go_enter Tryz.func5, Tryz.ntmps5
 go_wp2_with (first
   | (go_at_call 22
      (with_reducible refine (HN1.out _).mono ?_)
      rintro _ W0 ⟨ba, ma, rfl, hov, hb⟩; have O0 : Hid (∃ e, W0 = over w e) := hid hov; have HA0 := hid hb; have HN2 : Hid (∀ W, Calls Tryz.prog 22 #[.int .i64 1, .int .i64 1] W (NewPost W 1 1)) := hid HN1.out; clear hov hb HN1)
   | (go_at_call 22
      (with_reducible refine (HN2.out _).mono ?_)
      rintro _ W1 ⟨bb, mb, rfl, hov, hb⟩; have hTw : Two w w.heap.size W0.heap.size ba ma bb mb [] [] W1 := ⟨[], [], bk_ov HA0.out hov, hb, rfl, rfl, fun k hk hm => by have := (HA0.out.blt k hk).2; have := (hb.blt k hm).1; omega, Nat.le_refl _, by obtain ⟨e, he⟩ := O0.out; rw [he]; simp, ov_tr O0.out hov⟩; have O1 : Hid (∃ e, W1 = over w e) := hid (ov_tr O0.out hov); have HP1 : Hid (∀ W, (∃ e, W = over W1 e) → Calls Tryz.prog 23 #[.pointer (some ⟨ba, 0, none⟩), .int .u32 5, .agg #[.int .i64 1, .int .u64 2]] W (fun en w' => en = .returned (.int .u16 0) ∧ Two w w.heap.size W0.heap.size ba ma bb mb gS1 [] w')) := hid (two_put (x := ⟨1, 2⟩) step1 hTw HT.out); clear hov hb HN2 hTw)
   | (go_at_call 23
      (with_reducible refine (HP1.out _ ovA).mono ?_)
      rintro _ W2 ⟨rfl, hTw⟩; have HP2 : Hid (∀ W, (∃ e, W = over W2 e) → Calls Tryz.prog 23 #[.pointer (some ⟨bb, 0, none⟩), .int .u32 5, .agg #[.int .i64 1, .int .u64 2]] W (fun en w' => en = .returned (.int .u16 0) ∧ Two w W0.heap.size w.heap.size bb mb ba ma gS1 gS1 w')) := hid (two_put (x := ⟨1, 2⟩) step1 hTw.swap HT.out); clear HP1 hTw)
   | (go_at_call 23
      (with_reducible refine (HP2.out _ ovA).mono ?_)
      rintro _ W3 ⟨rfl, hTw⟩; have HP3 : Hid (∀ W, (∃ e, W = over W3 e) → Calls Tryz.prog 23 #[.pointer (some ⟨ba, 0, none⟩), .int .u32 5, .agg #[.int .i64 2, .int .u64 2]] W (fun en w' => en = .returned (.int .u16 0) ∧ Two w w.heap.size W0.heap.size ba ma bb mb gSa gS1 w')) := hid (two_put (x := ⟨2, 2⟩) (step2 (kn_wf _ _ (by omega) (by omega)) rfl g_puta) hTw.swap HT.out); clear HP2 hTw)
   | (go_at_call 23
      (with_reducible refine (HP3.out _ ovA).mono ?_)
      rintro _ W4 ⟨rfl, hTw⟩; have HP4 : Hid (∀ W, (∃ e, W = over W4 e) → Calls Tryz.prog 23 #[.pointer (some ⟨bb, 0, none⟩), .int .u32 5, .agg #[.int .i64 2, .int .u64 3]] W (fun en w' => en = .returned (.int .u16 0) ∧ Two w W0.heap.size w.heap.size bb mb ba ma gSb gSa w')) := hid (two_put (x := ⟨2, 3⟩) (step2 (kn_wf _ _ (by omega) (by omega)) rfl g_putb) hTw.swap HT.out); clear HP3 hTw)
   | (go_at_call 23
      (with_reducible refine (HP4.out _ ovA).mono ?_)
      rintro _ W5 ⟨rfl, hTw⟩; obtain ⟨Lb, La, hb, ha, hLb, hLa, _, _, _, ho5⟩ := hTw; have O5 := hid ho5; have lb : Lb.length = 1 := by rw [bk_len hLb]; rfl
      have la : La.length = 1 := by rw [bk_len hLa]; rfl
      have HLA : Hid (∀ W, (∃ e, W = over W5 e) → Calls Tryz.prog 9 #[.pointer (some ⟨ba, 0, none⟩)] W (LfsPost W lx)) := hid (fun W hW => by
       have k := leaves_any (bk_ov ha hW) (by omega) (g_cl hLa (by simp)) (fun id f hf => by have := bk_bits ha id f hf; omega) (by rw [g_lvsA hLa]; simp); rw [g_lvsA hLa, HLX.out] at k; exact k)
      have HLB : Hid (∀ W, (∃ e, W = over W5 e) → Calls Tryz.prog 9 #[.pointer (some ⟨bb, 0, none⟩)] W (LfsPost W ly)) := hid (fun W hW => by
       have k := leaves_any (bk_ov hb hW) (by omega) (g_cl hLb (by simp)) (fun id f hf => by have := bk_bits hb id f hf; omega) (by rw [g_lvsB hLb]; simp); rw [g_lvsB hLb, HLY.out] at k; exact k)
      have HLk : Hid (∀ W, (∃ e, W = over W5 e) → ∀ (a : Option Addr) (c : Nat), SlL W a c ly → Calls Tryz.prog 11 #[.pointer (some ⟨ba, 0, none⟩), .slice a 2 c] W (ChsP W lf)) := hid (fun W hW a c hs => by
       have k := lacks_any (bk_ov ha hW) (by omega) (g_cl hLa (by simp)) (fun id f hf => by have := bk_bits ha id f hf; omega) ly (by rw [HYL.out]; omega) a c hs (by rw [← HLY.out, g_lak hLa]; simp); rw [HYL.out, ← HLY.out, g_lak hLa, HLF.out] at k; exact k)
      clear ho5 hLb hLa hb ha HP4)
   | (go_at_call 9; (with_reducible refine (HLA.out _ ovA).mono ?_); rintro _ _ ⟨v6, rfl, ⟨e6, rfl⟩, o6⟩; obtain ⟨a6, c6, rfl, s6⟩ := Own.slice Lf.cs_len o6; rw [HXL.out]; have S6 := hid s6; clear o6 s6)
   | (go_at_call 17; (with_reducible refine (HAp.out _ _ _ _ _ (by exact slA S6.out) (by exact slA S7.out)).mono ?_); rintro _ _ ⟨v8, rfl, ⟨e8, rfl⟩, o8⟩; obtain ⟨a8, c8, rfl, s8⟩ := Own.slice Lf.cs_len o8; have S8 := hid s8; clear o8 s8 S7 HAp)
   | (go_at_call 11; (with_reducible refine (HLk.out _ ovA _ _ (by exact slA S7.out)).mono ?_); rintro _ w9 ⟨ho9, v9, fx, rfl, hm9, hf9⟩; obtain ⟨a9, c9, rfl, s9⟩ := Own.slice Fx.cs_len hf9.row; have hfx : fx.length = 1 := (by have h := congrArg List.length hm9; rw [HFLn.out.1, List.length_map] at h; exact h); obtain ⟨x9, rfl⟩ : ∃ x, fx = [x] := List.length_eq_one_iff.1 hfx; obtain ⟨b9, f9, rfl, h9, hc9⟩ := SlF.at_ s9 (k := 0) (by simp); have q9 := hc9 3 _ rfl; have hx9 := HFLn.out.2 _ hm9.symm; simp only [List.getElem_cons_zero, hx9] at q9; simp at q9; obtain ⟨b8, f8, rfl, h8, q80, q81, q82, q83⟩ := SlL.at_ (Sl.ov (by exact (by exact slA S8.out)) ho9) (k := 0) (by simp); simp at h8 q80 q81 q82 q83; have O9 : Hid (∃ e, w9 = over w e) := hid (ov_tr (by exact (ovB O5.out)) ho9); clear hf9 s9 hc9 hm9 hfx ho9 hx9)
   | (go_at_call 9; (with_reducible refine (HLB.out _ ovA).mono ?_); rintro _ _ ⟨v7, rfl, ⟨e7, rfl⟩, o7⟩; obtain ⟨a7, c7, rfl, s7⟩ := Own.slice Lf.cs_len o7; rw [HYL.out]; have S7 := hid s7; clear o7 s7)
   | (go_at_call 15; (with_reducible refine (HRt.out _).mono ?_); rintro _ _ ⟨⟨e10, rfl⟩, rfl⟩))
 go_ret
 exact ⟨(ovB O9.out), rfl⟩
end
end Go.Proofs.YtnffcckhdedhpaaGreatDoor
