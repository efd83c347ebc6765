/- Walks: FindSteps. -/
import Derived.Test.YtneeikjiabpjhaaDoorLFnB
import Derived.Test.YtneeikjiabpjhaaDoorStE
namespace Go.Proofs.YtneeikjiabpjhaaDoor
set_option linter.unusedVariables false
set_option linter.unusedSimpArgs false
open Go.RowKit
attribute [local go_sem] over_drew chg_drew
attribute [local go_sem high] agg_same

theorem SlU.at_ {w : World} {a : Option Addr} {cap : Nat} {xs : List Bu} (h : Sl 10 Bu.cs w a cap xs) {k : Nat} (hk : k < xs.length) :
    ∃ b off, a = some ⟨b, off, none⟩ ∧ b < w.heap.size ∧ w.cell? ⟨b, off + k * 10, none⟩ = some (.int .i64 xs[k].fr) ∧ w.cell? ⟨b, off + k * 10 + 1, none⟩ = some (.int .u64 (xs[k].ag.n : Nat)) ∧ w.cell? ⟨b, off + k * 10 + 2, none⟩ = some (.int .i64 xs[k].ag.f.t) ∧ w.cell? ⟨b, off + k * 10 + 3, none⟩ = some (.int .u64 (xs[k].ag.f.v : Nat)) ∧
      w.cell? ⟨b, off + k * 10 + 4, none⟩ = some (.int .i64 xs[k].ag.l.t) ∧ w.cell? ⟨b, off + k * 10 + 5, none⟩ = some (.int .u64 (xs[k].ag.l.v : Nat)) ∧ w.cell? ⟨b, off + k * 10 + 6, none⟩ = some (.int .u64 (xs[k].ag.mn : Nat)) ∧ w.cell? ⟨b, off + k * 10 + 7, none⟩ = some (.int .u64 (xs[k].ag.mx : Nat)) ∧ w.cell? ⟨b, off + k * 10 + 8, none⟩ = some (.int .u64 (xs[k].ag.hi : Nat)) ∧ w.cell? ⟨b, off + k * 10 + 9, none⟩ = some (.int .u64 (xs[k].ag.lo : Nat)) := by
  obtain ⟨b, off, rfl, hb, hcell⟩ := h.rec_ k xs[k] (List.getElem?_eq_getElem hk)
  exact ⟨b, off, rfl, hb, hcell 0 _ rfl, hcell 1 _ rfl, hcell 2 _ rfl, hcell 3 _ rfl, hcell 4 _ rfl, hcell 5 _ rfl, hcell 6 _ rfl, hcell 7 _ rfl, hcell 8 _ rfl, hcell 9 _ rfl⟩
theorem agC_f {l : List Sm} (h : l ≠ []) : (agC l).f = l.head h := by
  cases l with
  | nil => exact absurd rfl h
  | cons x l => rfl
/-- Two parts of a rising list. -/
theorem ag_two {l k : List Sm} (hr : RiseL (l ++ k)) (hw : ∀ x ∈ l ++ k, x.v < 18446744073709551616) (hl : (l ++ k).length ≤ 100000) : AgOk (agC l) (agC k) := by
  obtain ⟨b1, b2, b3⟩ := agC_bd (l := l) (fun x hx => hw x (by simp [hx]))
  obtain ⟨c1, c2, c3⟩ := agC_bd (l := k) (fun x hx => hw x (by simp [hx]))
  rw [List.length_append] at hl
  refine ⟨by omega, ⟨b1, c1⟩, by omega, ?_⟩
  by_cases h1 : l = []
  · left; rw [b3, h1]; rfl
  · by_cases h2 : k = []
    · right; left; rw [c3, h2]; rfl
    · right; right
      rw [agC_l h1, agC_f h2]
      exact (List.pairwise_append.1 hr).2.2 _ (List.getLast_mem h1) _ (List.head_mem h2)
/-- What is known of the j-th bucket. -/
structure BuK (sf : Int) (st : Nat) (F : Int) (A : Ag) (m lt : Nat) : Prop where
  n : ((A.n : Int) == 0) = false
  f : decide (A.f.t < F) = false
  h14 : IntKind.u64.wrap (IntKind.u64.wrap F - IntKind.u64.wrap sf) = (m : Int)
  h15 : IntKind.u64.wrap (IntKind.u64.wrap A.l.t - IntKind.u64.wrap F) = (lt : Int)
  md : m % st = 0
  late : lt < st
theorem bu_known {fr : Int} (hfr : -9223372036854775808 ≤ fr ∧ fr ≤ 9223372036854775807) {st : Nat} (hst : 0 < st) {all : List Sm} {gs : List (Nat × List Sm)} (h : StepG fr st all gs []) (hf : ∀ x ∈ all, x.wf ∧ fr ≤ x.t) {j : Nat} (hj : j < gs.length) :
    ∃ m lt, BuK fr st (buOf fr st gs[j]).fr (buOf fr st gs[j]).ag m lt := by
  obtain ⟨g, hg⟩ : ∃ g, gs[j]'hj = g := ⟨_, rfl⟩
  have hm : g ∈ gs := by rw [← hg]; exact List.getElem_mem hj
  rw [hg]
  have hne := h.ne g hm
  have hfl := h.flat
  rw [List.append_nil] at hfl
  have hin : ∀ x ∈ g.2, x ∈ all := fun x hx => by rw [← hfl]; exact List.mem_flatten.2 ⟨g.2, List.mem_map.2 ⟨g, hm, rfl⟩, hx⟩
  have t1 := h.time hst (fun x hx => (hf x hx).2) hm (List.head_mem hne)
  have t2 := h.time hst (fun x hx => (hf x hx).2) hm (List.getLast_mem hne)
  have w1 := hf _ (hin _ (List.head_mem hne))
  have w2 := hf _ (hin _ (List.getLast_mem hne))
  have hb1 : -9223372036854775808 ≤ (g.2.head hne).t ∧ (g.2.head hne).t ≤ 9223372036854775807 := w1.1.1
  have hb2 : -9223372036854775808 ≤ (g.2.getLast hne).t ∧ (g.2.getLast hne).t ≤ 9223372036854775807 := w2.1.1
  have hF : (buOf fr st g).fr = fr + ((g.1 * st : Nat) : Int) := by unfold buOf; simp
  have hA : (buOf fr st g).ag = agC g.2 := rfl
  rw [hF, hA]
  obtain ⟨m, hm0⟩ : ∃ m, g.1 * st = m := ⟨_, rfl⟩
  have hmm : (g.1 : Int) * (st : Int) = (m : Int) := by rw [← hm0]; simp
  rw [hmm] at t1 t2
  rw [hm0]
  refine ⟨m, ((g.2.getLast hne).t - (fr + m)).toNat, ?_, ?_, ?_, ?_, ?_, ?_⟩
  · rw [agC_n]
    have := List.length_pos_iff.2 hne
    simp
    exact hne
  · rw [agC_f hne]
    exact decide_eq_false (by omega)
  · simp only [IntKind.wrap_u64]
    omega
  · rw [agC_l hne]
    simp only [IntKind.wrap_u64]
    omega
  · rw [← hm0]; exact Nat.mul_mod_left _ _
  · omega
/-- What has been joined so far. -/
def sumL (gs : List (Nat × List Sm)) (j : Nat) : List Sm := ((gs.take j).map (·.2)).flatten
theorem sumL_succ {gs : List (Nat × List Sm)} {j : Nat} (hj : j < gs.length) : sumL gs (j + 1) = sumL gs j ++ gs[j].2 := by
  unfold sumL
  rw [List.take_succ_eq_append_getElem hj, List.map_append, List.flatten_append]; simp
theorem sum_step {fr : Int} {st : Nat} {all : List Sm} {gs : List (Nat × List Sm)} (h : StepG fr st all gs []) (hr : RiseL all) (hw : ∀ x ∈ all, x.v < 18446744073709551616) (hl : all.length ≤ 100000) {j : Nat} (hj : j < gs.length) :
    AgOk (agC (sumL gs j)) (buOf fr st gs[j]).ag ∧ agJ (agC (sumL gs j)) (buOf fr st gs[j]).ag = agC (sumL gs (j + 1)) := by
  have hfl := h.flat
  rw [List.append_nil] at hfl
  have hp : all = sumL gs (j + 1) ++ ((gs.drop (j + 1)).map (·.2)).flatten := by
    rw [← hfl]
    unfold sumL
    rw [← List.flatten_append, ← List.map_append, List.take_append_drop]
  rw [hp] at hr hl
  have hr2 := (List.pairwise_append.1 hr).1
  rw [List.length_append] at hl
  rw [sumL_succ hj] at hr2 ⊢
  show AgOk (agC (sumL gs j)) (agC gs[j].2) ∧ agJ (agC (sumL gs j)) (agC gs[j].2) = _
  refine ⟨ag_two hr2 (fun x hx => hw x ?_) (by rw [← sumL_succ hj]; omega), agJ_agC _ _⟩
  rw [hp, sumL_succ hj]
  exact List.mem_append_left _ hx
set_option maxRecDepth 100000 in
set_option maxHeartbeats 4000000 in
theorem findSteps_any (size : Int) (hz : -9223372036854775808 ≤ size ∧ size ≤ 9223372036854775807) (xs : List Opr) (hx : ∀ o ∈ xs, o.wf) (a : Option Addr) (cap : Nat) (sp : Sp) (hsp : sp.wf) (st : Nat) (hst2 : st < 18446744073709551616) (w : World) (hT : TabW w) (hs : SlO w a cap xs) :
    Calls Tryd.prog 5 #[.int .i64 size, .slice a xs.length cap, sp.v, .int .u64 (st : Nat)] w (Ret w (.bool true)) := by
  obtain ⟨sf, sto⟩ := sp
  obtain ⟨hf1, hf2⟩ : (-9223372036854775808 ≤ sf ∧ sf ≤ 9223372036854775807) ∧ (-9223372036854775808 ≤ sto ∧ sto ≤ 9223372036854775807) := ⟨⟨hsp.1, hsp.2.1⟩, hsp.2.2⟩
  have HKn := hid (fun W (hW : TabW W) => kn25_any W hW)
  have HBo := hid (fun (hl : xs.length ≤ 60) W (h1 : TabW W) (h2 : SlO W a cap xs) => both_any size hz xs hx hl a cap W h1 h2)
  obtain ⟨sz, hsz0⟩ : ∃ sz, lsz size = sz := ⟨_, rfl⟩
  rw [hsz0] at HBo
  obtain ⟨ops, hops⟩ : ∃ ops, opsL xs = ops := ⟨_, rfl⟩
  rw [hops] at HBo
  clear hz hx hsz0 hops hsp
  by_cases hl : 60 < xs.length
  · have hd : decide (60 < xs.length) = true := decide_eq_true hl
    go_enter Tryd.func5, Tryd.ntmps5
    go_wp2_with (go_at_call 6; (with_reducible refine (HKn.out _ (by exact tabA hT)).mono ?_); rintro _ _ ⟨⟨e1, rfl⟩, rfl⟩)
    go_ret
    exact ⟨(by (try unfold Ov); exact ovA), rfl⟩
  have hd : decide (60 < xs.length) = false := decide_eq_false hl
  by_cases h0 : st = 0
  · subst h0
    go_enter Tryd.func5, Tryd.ntmps5
    go_wp2_with (go_at_call 6; (with_reducible refine (HKn.out _ (by exact tabA hT)).mono ?_); rintro _ _ ⟨⟨e1, rfl⟩, rfl⟩)
    go_ret
    exact ⟨(by (try unfold Ov); exact ovA), rfl⟩
  have hst0 : ((st : Int) == 0) = false := by simpa using h0
  by_cases hto : sto < sf
  · have hdt : decide (sto < sf) = true := decide_eq_true hto
    go_enter Tryd.func5, Tryd.ntmps5
    go_wp2_with (go_at_call 6; (with_reducible refine (HKn.out _ (by exact tabA hT)).mono ?_); rintro _ _ ⟨⟨e1, rfl⟩, rfl⟩)
    go_ret
    exact ⟨(by (try unfold Ov); exact ovA), rfl⟩
  have hdt : decide (sto < sf) = false := decide_eq_false hto
  have HBo2 := hid (HBo.out (by omega))
  have hstp : 0 < st := by omega
  go_enter Tryd.func5, Tryd.ntmps5
  go_wp2_with (first
    | (go_at_call 6; (with_reducible refine (HKn.out _ (by exact tabA hT)).mono ?_); rintro _ _ ⟨⟨e1, rfl⟩, rfl⟩)
    | (go_at_call 7
       (with_reducible refine (HBo2.out _ (by exact tabA hT) (by exact slA hs)).mono ?_)
       rintro _ W1 ⟨b, mb, L, p, v, rr, R, al, cl, rs, rfl, ⟨e2, hW1⟩, hLd, hsl, hrows, _, _⟩
       have O1 : Hid (∃ e, W1 = over w e) := hid (by rw [hW1]; exact (by (try unfold Ov); exact ovA))
       have P6 : Hid (Blk W1 w.heap.size [.int .i64 sf, .int .i64 sto] 24) := hid (by rw [hW1]; exact Blk.on (Blk.on (Blk.new' rfl) _) _)
       have HL := hid hLd
       have HSL := hid hsl
       have HT1 := hid (TabW.ov hT O1.out)
       have hrl : rs.length ≤ 60 := by rw [hLd.len]; exact hLd.I.len
       clear hW1 hLd hsl hrows))
  have q60 := P6.out.cell 0 rfl
  have q61 := P6.out.cell 1 rfl
  have l6 := P6.out.lt
  go_loopw [12, 13, 14, 15, 16, 17, 18, 19, 20, 21, 22] (fun i _ _ _ _ _ _ _ _ _ _ wr => ∃ k : Nat, k ≤ rs.length ∧ i = .int .i64 (k : Nat) ∧ Ov W1 wr) (fun i _ _ _ _ _ _ _ _ _ _ _ => rs.length - (intOf i).toNat)
  case atStart => exact ⟨0, Nat.zero_le _, rfl, (by (try unfold Ov); exact ovA)⟩
  case round =>
    obtain ⟨k, hk, rfl, ⟨e0, rfl⟩⟩ := hrel
    by_cases hlt : k < rs.length
    · obtain ⟨bl, off, rfl, hbl, x0, x1⟩ := SlR.at_ HSL.out hlt
      obtain ⟨id, s, hK⟩ := HL.out.k hlt
      have hrise := laid_rise HL.out hlt hK
      have hwf := srok_wf hK.ok
      have hall := hK.all
      rw [hK.nid hlt] at x0
      have HSt := hid (fun W (hW : ∃ e, W = over W1 e) => steps_any (bk_ov HL.out.bk hW) (TabW.ov HT1.out hW) id hK.get hrise hwf (by have := hK.cl; omega) (by omega) sf sto hf1 st hstp hst2 (by omega))
      have HBs := hid (fun W (hW : ∃ e, W = over W1 e) => between_any (bk_ov HL.out.bk hW) (TabW.ov HT1.out hW) id hK.get hrise (by have := hK.cl; omega) (by omega) sf sto)
      have hr2 : RiseL (betw s.all sf sto) := List.Pairwise.filter _ hrise
      have hw2 : ∀ x ∈ betw s.all sf sto, x.wf ∧ sf ≤ x.t := fun x hx => ⟨hwf x (List.mem_filter.1 hx).1, (betw_mem hx).1⟩
      have hal : (betw s.all sf sto).length ≤ 60 := Nat.le_trans (List.length_filter_le _ _) hall
      obtain ⟨all, hall2⟩ : ∃ all, betw s.all sf sto = all := ⟨_, rfl⟩
      rw [hall2] at HSt HBs hr2 hw2 hal
      have HOf := hid (fun W A C (hW : SlM W A C all) => aggof_any all hr2 (fun x hx => (hw2 x hx).1.2) (by omega) A C W hW)
      have HR2 := hid hr2
      have HW2 := hid hw2
      have hdl : decide (k < rs.length) = true := decide_eq_true hlt
      clear hK hrise hwf hall hall2 hr2 hw2 x1
      go_wp2
      refine M2.wp_region_mix [8] 14 (by kernel_rfl) (by kernel_rfl) (by decide) ?_
      simp only [List.take_succ_cons, List.take_zero, List.drop_succ_cons, List.drop_zero]
      with_reducible refine M2.mixL_quiet 8 (by kernel_rfl) ?_
      simp only [List.take_succ_cons, List.take_zero, List.drop_succ_cons, List.drop_zero]
      repeat (go_big_quiet_step (fail))
      with_reducible refine wpQuiet_nil ?_
      with_reducible refine M2.mixL_eff (by decide) ?_
      go_wp2_with ((go_at_call 11; (with_reducible refine (HSt.out _ (by (try unfold Ov); exact ovA)).mono ?_); rintro _ _ ⟨⟨e4, rfl⟩, v4, gs, rfl, hG, o4⟩; obtain ⟨bs, hbs⟩ : ∃ bs, gs.map (buOf sf st) = bs := ⟨_, rfl⟩; rw [hbs] at o4; have HBS := hid hbs; clear hbs; obtain ⟨a4, c4, rfl, s4⟩ := Own.slice Bu.cs_len o4; have HG := hid hG; have S4 := hid s4; clear hG o4 s4))
      refine M2.MixQ.mk (by (try unfold Ov); exact ovA) ?_
      with_reducible refine M2.mixL_quiet 5 (by kernel_rfl) ?_
      simp only [List.take_succ_cons, List.take_zero, List.drop_succ_cons, List.drop_zero]
      repeat (go_big_quiet_step (fail))
      with_reducible refine wpQuiet_nil ?_
      with_reducible refine M2.mixL_nil ?_
      with_reducible refine M2.mixL_nil ?_
      refine gen_w ?_
      intro W3 hW3
      have O3 : Hid (∃ e, W3 = over W1 e) := hid (by rw [hW3]; exact (by (try unfold Ov); exact ovA))
      have T4 : Hid (Sl 10 Bu.cs W3 a4 c4 bs) := hid (by rw [hW3]; have h := S4.out; rwa [over_drew] at h)
      have T6 : Hid (Blk W3 w.heap.size [.int .i64 sf, .int .i64 sto] 24) := hid (by obtain ⟨e, he⟩ := O3.out; rw [he]; exact Blk.on P6.out e)
      clear hW3 S4
      have hbs := HBS.out
      have hbl2 : bs.length = gs.length := by rw [← hbs]; simp
      have hgl : gs.length ≤ 60 := by have := HG.out.len; simp at this; omega
      have hbl3 : bs.length ≤ 60 := by omega
      have HBK : Hid (∀ j, (hj : j < bs.length) → ∃ m lt, BuK sf st bs[j].fr bs[j].ag m lt) := hid (fun j hj => by
        have hjg : j < gs.length := by omega
        have hb : bs[j] = buOf sf st gs[j] := by subst hbs; simp
        rw [hb]
        exact bu_known hf1 hstp HG.out HW2.out hjg)
      have HJN : Hid (∀ j, (hj : j < bs.length) → ∀ W, Calls Tryd.prog 12 #[(agC (sumL gs j)).v, bs[j].ag.v] W (Ret W (.tuple #[(agC (sumL gs (j + 1))).v, .int .u16 0]))) := hid (fun j hj W => by
        have hjg : j < gs.length := by omega
        have hb : bs[j] = buOf sf st gs[j] := by subst hbs; simp
        obtain ⟨h1, h2⟩ := sum_step HG.out HR2.out (fun x hx => (HW2.out x hx).1.2) (by omega) hjg
        have k := join_any _ _ h1 W
        rw [h2] at k
        rw [hb]; exact k)
      have HUP : Hid (∀ j, (hj : j + 1 < bs.length) → (bs[j]'(Nat.lt_of_succ_lt hj)).fr < (bs[j + 1]'hj).fr) := hid (fun j hj => by
        have hjg : j + 1 < gs.length := by omega
        have hb : bs[j] = buOf sf st gs[j] := by subst hbs; simp
        have hb1 : bs[j + 1] = buOf sf st gs[j + 1] := by subst hbs; simp
        rw [hb, hb1]
        have h1 := (List.pairwise_iff_getElem.1 HG.out.sort) j (j + 1) (by omega) hjg (by omega)
        unfold buOf
        simp only
        have h2 : gs[j].1 * st < gs[j + 1].1 * st := Nat.mul_lt_mul_of_pos_right h1 hstp
        have h3 : ((gs[j].1 * st : Nat) : Int) < ((gs[j + 1].1 * st : Nat) : Int) := by exact_mod_cast h2
        simp only [Int.natCast_mul] at h3
        omega)
      have HEND : Hid (agC (sumL gs bs.length) = agC all) := hid (by
        rw [hbl2]
        have hfl := HG.out.flat
        rw [List.append_nil] at hfl
        unfold sumL
        rw [List.take_length, hfl])
      have t60 := T6.out.cell 0 rfl
      have t61 := T6.out.cell 1 rfl
      have tl6 := T6.out.lt
      obtain ⟨z3, hz3⟩ := O3.out
      have y0 : W3.cell? ⟨bl, off + k * 2, none⟩ = some (.int .u32 (id : Nat)) := by rw [hz3, cell_over _ _ _ _ hbl]; exact x0
      have yl : bl < W3.heap.size := by rw [hz3]; simp; omega
      clear hgl hbl2 hbs hz3 z3 q60 q61 l6 x0
      go_wp2
      go_loopw [16, 17, 18, 19, 20] (fun j _ _ _ _ wr => ∃ m : Nat, m ≤ bs.length ∧ j = .int .i64 (m : Nat) ∧ Blk wr W3.heap.size (agC (sumL gs m)).cs 50 ∧ Ov W3 wr) (fun j _ _ _ _ _ => bs.length - (intOf j).toNat)
      case atStart => exact ⟨0, Nat.zero_le _, rfl, Blk.new' rfl, (by (try unfold Ov); exact ovA)⟩
      case round =>
        obtain ⟨m, hm, rfl, hB, hov⟩ := hrel
        have O5 : Hid (∃ e, wr = over W3 e) := hid hov
        have HB := hid hB
        by_cases hmb : m < bs.length
        · obtain ⟨ub, uo, hua, hub, u0, u1, u2, u3, u4, u5, u6, u7, u8, u9⟩ := SlU.at_ (Sl.ov T4.out hov) hmb
          obtain ⟨mm, lt, hbk⟩ := HBK.out m hmb
          have HJ := hid (HJN.out m hmb)
          have hup : ∀ i, m = i + 1 → ∃ F0, wr.cell? ⟨ub, uo + i * 10, none⟩ = some (.int .i64 F0) ∧ F0 < bs[m].fr := fun i hi => by
            subst hi
            obtain ⟨ub2, uo2, hua2, _, v0, _⟩ := SlU.at_ (Sl.ov T4.out hov) (show i < bs.length by omega)
            rw [hua] at hua2
            cases hua2
            exact ⟨_, v0, HUP.out i hmb⟩
          subst hua
          obtain ⟨⟨F, ⟨An, ⟨Aft, Afv⟩, ⟨Alt, Alv⟩, Amn, Amx, Ahi, Alo⟩⟩, hx⟩ : ∃ x, bs[m]'hmb = x := ⟨_, rfl⟩
          rw [hx] at u0 u1 u2 u3 u4 u5 u6 u7 u8 u9 hbk HJ
          simp only [hx] at hup
          simp only at u0 u1 u2 u3 u4 u5 u6 u7 u8 u9 hup
          obtain ⟨k1, k2, k3, k4, k5, k6⟩ := hbk
          simp only at k1 k2 k3 k4
          have hdm : decide (m < bs.length) = true := decide_eq_true hmb
          obtain ⟨A, hA⟩ : ∃ A, agC (sumL gs m) = A := ⟨_, rfl⟩
          rw [hA] at hB HB HJ
          obtain ⟨A2, hA2⟩ : ∃ A, agC (sumL gs (m + 1)) = A := ⟨_, rfl⟩
          rw [hA2] at HJ
          have HA2 := hid hA2
          have r0 := hB.cell 0 rfl
          have r1 := hB.cell 1 rfl
          have r2 := hB.cell 2 rfl
          have r3 := hB.cell 3 rfl
          have r4 := hB.cell 4 rfl
          have r5 := hB.cell 5 rfl
          have r6 := hB.cell 6 rfl
          have r7 := hB.cell 7 rfl
          have r8 := hB.cell 8 rfl
          have rl := hB.lt
          have rf : ∀ j, wr.frozen? ⟨W3.heap.size, j, none⟩ = false := fun j => hB.free j
          obtain ⟨Bn, ⟨Bft, Bfv⟩, ⟨Blt, Blv⟩, Bmn, Bmx, Bhi, Blo⟩ := A
          simp only at r0 r1 r2 r3 r4 r5 r6 r7 r8
          have V6 : Hid (Blk wr w.heap.size [.int .i64 sf, .int .i64 sto] 24) := hid (by obtain ⟨e, he⟩ := O5.out; rw [he]; exact Blk.on T6.out e)
          have v60 := V6.out.cell 0 rfl
          have v61 := V6.out.cell 1 rfl
          have vl6 := V6.out.lt
          have hmd : ((mm : Int) % (st : Int) != 0) = false := by
            have : ((mm : Int) % (st : Int)) = ((mm % st : Nat) : Int) := (Int.natCast_emod mm st).symm
            rw [this, k5]; rfl
          have hlate : decide (st ≤ lt) = false := decide_eq_false (by omega)
          clear hov hB hx hA hA2 k5 k6
          rcases Nat.eq_zero_or_pos m with hm0 | hm0
          · have hd01 : decide ((0 : Int) < (m : Int)) = false := decide_eq_false (by omega)
            have hd02 : decide (0 < m) = false := decide_eq_false (by omega)
            clear hup hm0
            go_wp2
            refine wp_region_over (by kernel_rfl) (by kernel_rfl) ?_
            repeat (go_big_quiet_step ((fail)))
            refine wpQuiet_nil ?_
            intro _ hw'
            obtain ⟨nq, rfl⟩ := hw'
            go_wp2
            refine wp_region_over (by kernel_rfl) (by kernel_rfl) ?_
            repeat (go_big_quiet_step ((fail)))
            refine wpQuiet_nil ?_
            intro _ hw'
            obtain ⟨nq, rfl⟩ := hw'
            go_wp2
            refine wp_region_over (by kernel_rfl) (by kernel_rfl) ?_
            repeat (go_big_quiet_step ((fail)))
            refine wpQuiet_nil ?_
            intro _ hw'
            obtain ⟨nq, rfl⟩ := hw'
            go_wp2
            refine M2.wp_region_tree (fun w' => ∃ e : World, w' = over _ e) [6, 10, 11] (.q 0 (.q 1 (.q 2 (.q 3 (.q 4 (.q 5 (.e 6 (.q 7 (.q 8 (.q 9 (.e 10 (.e 11 (.q 12 .done) .no) .no)))) (.e 10 (.e 6 (.q 7 (.q 8 (.q 9 (.e 11 (.q 12 .done) .no)))) .no) .no)))))))) (by kernel_rfl) (by kernel_rfl) (ex_drew (over_self _)) ?_
            refine M2.tree_q (k := 0) rfl rfl ?_
            go_big_quiet_step (fail)
            with_reducible refine wpQuiet_nil ?_
            refine M2.tree_q (k := 1) rfl rfl ?_
            go_big_quiet_step (fail)
            with_reducible refine wpQuiet_nil ?_
            refine M2.tree_q (k := 2) rfl rfl ?_
            go_big_quiet_step (fail)
            with_reducible refine wpQuiet_nil ?_
            refine M2.tree_q (k := 3) rfl rfl ?_
            go_big_quiet_step (fail)
            with_reducible refine wpQuiet_nil ?_
            refine M2.tree_q (k := 4) rfl rfl ?_
            go_big_quiet_step (fail)
            with_reducible refine wpQuiet_nil ?_
            refine M2.tree_q (k := 5) rfl rfl ?_
            go_big_quiet_step (fail)
            with_reducible refine wpQuiet_nil ?_
            refine M2.tree_e (k := 6) rfl ?_ ?_
            · go_wp2_with ((go_at_call 12; (with_reducible refine (HJ.out _).mono ?_); rintro _ _ ⟨⟨e6, rfl⟩, rfl⟩))
              refine M2.TreeQ.mk (by (try unfold Ov); exact ovA) ?_
              refine M2.tree_q (k := 7) rfl rfl ?_
              go_big_quiet_step (fail)
              with_reducible refine wpQuiet_nil ?_
              refine M2.tree_q (k := 8) rfl rfl ?_
              go_big_quiet_step (fail)
              with_reducible refine wpQuiet_nil ?_
              refine M2.tree_q (k := 9) rfl rfl ?_
              go_big_quiet_step (fail)
              with_reducible refine wpQuiet_nil ?_
              refine M2.tree_e (k := 10) rfl ?_ ?_
              · go_wp2_with ((go_at_call 12; (with_reducible refine (HJ.out _).mono ?_); rintro _ _ ⟨⟨e6, rfl⟩, rfl⟩))
                refine M2.TreeQ.mk (by (try unfold Ov); exact ovA) ?_
                refine M2.tree_e (k := 11) rfl ?_ ?_
                · go_wp2_with ((go_at_call 12; (with_reducible refine (HJ.out _).mono ?_); rintro _ _ ⟨⟨e6, rfl⟩, rfl⟩))
                  refine M2.TreeQ.mk (by (try unfold Ov); exact ovA) ?_
                  refine M2.tree_q (k := 12) rfl rfl ?_
                  go_big_quiet_step (fail)
                  with_reducible refine wpQuiet_nil ?_
                  refine M2.tree_done ?_
                  go_wp2
                  go_roundw
                  case rel => exact ⟨m + 1, by omega, by go_num, by rw [HA2.out]; (repeat (first | with_reducible exact setAg_blk HB.out A2 | with_reducible refine Blk.on ?_ _ | with_reducible refine Blk.alloc ?_ _ | with_reducible refine Blk.drew ?_)), (by (try unfold Ov); repeat (first | with_reducible exact setAg_ov O5.out (Nat.le_refl _) A2 | with_reducible refine ex_into ?_ _ | with_reducible refine ex_alloc ?_ _ | with_reducible refine ex_drew ?_))⟩
                  case measure => (simp [intOf]; try omega)
                exact M2.tree_no
              exact M2.tree_no
            refine M2.tree_e (k := 10) rfl ?_ ?_
            · go_wp2_with ((go_at_call 12; (with_reducible refine (HJ.out _).mono ?_); rintro _ _ ⟨⟨e6, rfl⟩, rfl⟩))
              refine M2.TreeQ.mk (by (try unfold Ov); exact ovA) ?_
              refine M2.tree_e (k := 6) rfl ?_ ?_
              · go_wp2_with ((go_at_call 12; (with_reducible refine (HJ.out _).mono ?_); rintro _ _ ⟨⟨e6, rfl⟩, rfl⟩))
                refine M2.TreeQ.mk (by (try unfold Ov); exact ovA) ?_
                refine M2.tree_q (k := 7) rfl rfl ?_
                go_big_quiet_step (fail)
                with_reducible refine wpQuiet_nil ?_
                refine M2.tree_q (k := 8) rfl rfl ?_
                go_big_quiet_step (fail)
                with_reducible refine wpQuiet_nil ?_
                refine M2.tree_q (k := 9) rfl rfl ?_
                go_big_quiet_step (fail)
                with_reducible refine wpQuiet_nil ?_
                refine M2.tree_e (k := 11) rfl ?_ ?_
                · go_wp2_with ((go_at_call 12; (with_reducible refine (HJ.out _).mono ?_); rintro _ _ ⟨⟨e6, rfl⟩, rfl⟩))
                  refine M2.TreeQ.mk (by (try unfold Ov); exact ovA) ?_
                  refine M2.tree_q (k := 12) rfl rfl ?_
                  go_big_quiet_step (fail)
                  with_reducible refine wpQuiet_nil ?_
                  refine M2.tree_done ?_
                  go_wp2
                  go_roundw
                  case rel => exact ⟨m + 1, by omega, by go_num, by rw [HA2.out]; (repeat (first | with_reducible exact setAg_blk HB.out A2 | with_reducible refine Blk.on ?_ _ | with_reducible refine Blk.alloc ?_ _ | with_reducible refine Blk.drew ?_)), (by (try unfold Ov); repeat (first | with_reducible exact setAg_ov O5.out (Nat.le_refl _) A2 | with_reducible refine ex_into ?_ _ | with_reducible refine ex_alloc ?_ _ | with_reducible refine ex_drew ?_))⟩
                  case measure => (simp [intOf]; try omega)
                exact M2.tree_no
              exact M2.tree_no
            exact M2.tree_no
          · obtain ⟨F0, g0, g1⟩ := hup (m - 1) (by omega)
            have hdF : decide (F ≤ F0) = false := decide_eq_false (by omega)
            have hd01 : decide ((0 : Int) < (m : Int)) = true := decide_eq_true (by omega)
            have hd02 : decide (0 < m) = true := decide_eq_true (by omega)
            have hm60 : m ≤ 60 := by omega
            clear hup g1
            go_wp2
            refine wp_region_over (by kernel_rfl) (by kernel_rfl) ?_
            repeat (go_big_quiet_step ((fail)))
            refine wpQuiet_nil ?_
            intro _ hw'
            obtain ⟨nq, rfl⟩ := hw'
            go_wp2
            refine wp_region_over (by kernel_rfl) (by kernel_rfl) ?_
            repeat (go_big_quiet_step ((fail)))
            refine wpQuiet_nil ?_
            intro _ hw'
            obtain ⟨nq, rfl⟩ := hw'
            go_wp2
            refine wp_region_over (by kernel_rfl) (by kernel_rfl) ?_
            repeat (go_big_quiet_step ((fail)))
            refine wpQuiet_nil ?_
            intro _ hw'
            obtain ⟨nq, rfl⟩ := hw'
            go_wp2
            refine M2.wp_region_tree (fun w' => ∃ e : World, w' = over _ e) [6, 10, 11] (.q 0 (.q 1 (.q 2 (.q 3 (.q 4 (.q 5 (.e 6 (.q 7 (.q 8 (.q 9 (.e 10 (.e 11 (.q 12 .done) .no) .no)))) (.e 10 (.e 6 (.q 7 (.q 8 (.q 9 (.e 11 (.q 12 .done) .no)))) .no) .no)))))))) (by kernel_rfl) (by kernel_rfl) (ex_drew (over_self _)) ?_
            refine M2.tree_q (k := 0) rfl rfl ?_
            go_big_quiet_step (fail)
            with_reducible refine wpQuiet_nil ?_
            refine M2.tree_q (k := 1) rfl rfl ?_
            go_big_quiet_step (fail)
            with_reducible refine wpQuiet_nil ?_
            refine M2.tree_q (k := 2) rfl rfl ?_
            go_big_quiet_step (fail)
            with_reducible refine wpQuiet_nil ?_
            refine M2.tree_q (k := 3) rfl rfl ?_
            go_big_quiet_step (fail)
            with_reducible refine wpQuiet_nil ?_
            refine M2.tree_q (k := 4) rfl rfl ?_
            go_big_quiet_step (fail)
            with_reducible refine wpQuiet_nil ?_
            refine M2.tree_q (k := 5) rfl rfl ?_
            go_big_quiet_step (fail)
            with_reducible refine wpQuiet_nil ?_
            refine M2.tree_e (k := 6) rfl ?_ ?_
            · go_wp2_with ((go_at_call 12; (with_reducible refine (HJ.out _).mono ?_); rintro _ _ ⟨⟨e6, rfl⟩, rfl⟩))
              refine M2.TreeQ.mk (by (try unfold Ov); exact ovA) ?_
              refine M2.tree_q (k := 7) rfl rfl ?_
              go_big_quiet_step (fail)
              with_reducible refine wpQuiet_nil ?_
              refine M2.tree_q (k := 8) rfl rfl ?_
              go_big_quiet_step (fail)
              with_reducible refine wpQuiet_nil ?_
              refine M2.tree_q (k := 9) rfl rfl ?_
              go_big_quiet_step (fail)
              with_reducible refine wpQuiet_nil ?_
              refine M2.tree_e (k := 10) rfl ?_ ?_
              · go_wp2_with ((go_at_call 12; (with_reducible refine (HJ.out _).mono ?_); rintro _ _ ⟨⟨e6, rfl⟩, rfl⟩))
                refine M2.TreeQ.mk (by (try unfold Ov); exact ovA) ?_
                refine M2.tree_e (k := 11) rfl ?_ ?_
                · go_wp2_with ((go_at_call 12; (with_reducible refine (HJ.out _).mono ?_); rintro _ _ ⟨⟨e6, rfl⟩, rfl⟩))
                  refine M2.TreeQ.mk (by (try unfold Ov); exact ovA) ?_
                  refine M2.tree_q (k := 12) rfl rfl ?_
                  go_big_quiet_step (fail)
                  with_reducible refine wpQuiet_nil ?_
                  refine M2.tree_done ?_
                  go_wp2
                  go_roundw
                  case rel => exact ⟨m + 1, by omega, by go_num, by rw [HA2.out]; (repeat (first | with_reducible exact setAg_blk HB.out A2 | with_reducible refine Blk.on ?_ _ | with_reducible refine Blk.alloc ?_ _ | with_reducible refine Blk.drew ?_)), (by (try unfold Ov); repeat (first | with_reducible exact setAg_ov O5.out (Nat.le_refl _) A2 | with_reducible refine ex_into ?_ _ | with_reducible refine ex_alloc ?_ _ | with_reducible refine ex_drew ?_))⟩
                  case measure => (simp [intOf]; try omega)
                exact M2.tree_no
              exact M2.tree_no
            refine M2.tree_e (k := 10) rfl ?_ ?_
            · go_wp2_with ((go_at_call 12; (with_reducible refine (HJ.out _).mono ?_); rintro _ _ ⟨⟨e6, rfl⟩, rfl⟩))
              refine M2.TreeQ.mk (by (try unfold Ov); exact ovA) ?_
              refine M2.tree_e (k := 6) rfl ?_ ?_
              · go_wp2_with ((go_at_call 12; (with_reducible refine (HJ.out _).mono ?_); rintro _ _ ⟨⟨e6, rfl⟩, rfl⟩))
                refine M2.TreeQ.mk (by (try unfold Ov); exact ovA) ?_
                refine M2.tree_q (k := 7) rfl rfl ?_
                go_big_quiet_step (fail)
                with_reducible refine wpQuiet_nil ?_
                refine M2.tree_q (k := 8) rfl rfl ?_
                go_big_quiet_step (fail)
                with_reducible refine wpQuiet_nil ?_
                refine M2.tree_q (k := 9) rfl rfl ?_
                go_big_quiet_step (fail)
                with_reducible refine wpQuiet_nil ?_
                refine M2.tree_e (k := 11) rfl ?_ ?_
                · go_wp2_with ((go_at_call 12; (with_reducible refine (HJ.out _).mono ?_); rintro _ _ ⟨⟨e6, rfl⟩, rfl⟩))
                  refine M2.TreeQ.mk (by (try unfold Ov); exact ovA) ?_
                  refine M2.tree_q (k := 12) rfl rfl ?_
                  go_big_quiet_step (fail)
                  with_reducible refine wpQuiet_nil ?_
                  refine M2.tree_done ?_
                  go_wp2
                  go_roundw
                  case rel => exact ⟨m + 1, by omega, by go_num, by rw [HA2.out]; (repeat (first | with_reducible exact setAg_blk HB.out A2 | with_reducible refine Blk.on ?_ _ | with_reducible refine Blk.alloc ?_ _ | with_reducible refine Blk.drew ?_)), (by (try unfold Ov); repeat (first | with_reducible exact setAg_ov O5.out (Nat.le_refl _) A2 | with_reducible refine ex_into ?_ _ | with_reducible refine ex_alloc ?_ _ | with_reducible refine ex_drew ?_))⟩
                  case measure => (simp [intOf]; try omega)
                exact M2.tree_no
              exact M2.tree_no
            exact M2.tree_no
        · obtain rfl : m = bs.length := by omega
          rw [HEND.out] at hB
          have O50 : Hid (∃ e, wr = over W1 e) := hid (ov_tr O3.out O5.out)
          have V6 : Hid (Blk wr w.heap.size [.int .i64 sf, .int .i64 sto] 24) := hid (by obtain ⟨e, he⟩ := O5.out; rw [he]; exact Blk.on T6.out e)
          have v60 := V6.out.cell 0 rfl
          have v61 := V6.out.cell 1 rfl
          have vl6 := V6.out.lt
          obtain ⟨A, hA⟩ : ∃ A, agC all = A := ⟨_, rfl⟩
          rw [hA] at hB HOf
          have r0 := hB.cell 0 rfl
          have r1 := hB.cell 1 rfl
          have r2 := hB.cell 2 rfl
          have r3 := hB.cell 3 rfl
          have r4 := hB.cell 4 rfl
          have r5 := hB.cell 5 rfl
          have r6 := hB.cell 6 rfl
          have r7 := hB.cell 7 rfl
          have r8 := hB.cell 8 rfl
          have rl := hB.lt
          obtain ⟨Bn, ⟨Bft, Bfv⟩, ⟨Blt, Blv⟩, Bmn, Bmx, Bhi, Blo⟩ := A
          simp only at r0 r1 r2 r3 r4 r5 r6 r7 r8
          obtain ⟨z5, hz5⟩ := O5.out
          have yy0 : wr.cell? ⟨bl, off + k * 2, none⟩ = some (.int .u32 (id : Nat)) := by rw [hz5, cell_over _ _ _ _ yl]; exact y0
          have yyl : bl < wr.heap.size := by rw [hz5]; simp; omega
          clear hov hB hA hz5 z5 t60 t61 tl6 y0 yl
          go_wp2
          refine M2.wp_region_tree (fun w' => ∃ e : World, w' = over _ e) [7, 8, 12, 13] (.q 0 (.q 1 (.q 2 (.q 3 (.q 4 (.q 5 (.q 6 (.e 7 (.e 8 (.q 9 (.q 10 (.q 11 (.e 12 (.e 13 (.q 14 .done) .no) .no)))) (.e 12 (.e 8 (.q 9 (.q 10 (.q 11 (.e 13 (.q 14 .done) .no)))) .no) .no)) (.e 12 (.e 7 (.e 8 (.q 9 (.q 10 (.q 11 (.e 13 (.q 14 .done) .no)))) .no) .no) .no))))))))) (by kernel_rfl) (by kernel_rfl) (ex_drew (over_self _)) ?_
          refine M2.tree_q (k := 0) rfl rfl ?_
          go_big_quiet_step (fail)
          with_reducible refine wpQuiet_nil ?_
          refine M2.tree_q (k := 1) rfl rfl ?_
          go_big_quiet_step (fail)
          with_reducible refine wpQuiet_nil ?_
          refine M2.tree_q (k := 2) rfl rfl ?_
          go_big_quiet_step (fail)
          with_reducible refine wpQuiet_nil ?_
          refine M2.tree_q (k := 3) rfl rfl ?_
          go_big_quiet_step (fail)
          with_reducible refine wpQuiet_nil ?_
          refine M2.tree_q (k := 4) rfl rfl ?_
          go_big_quiet_step (fail)
          with_reducible refine wpQuiet_nil ?_
          refine M2.tree_q (k := 5) rfl rfl ?_
          go_big_quiet_step (fail)
          with_reducible refine wpQuiet_nil ?_
          refine M2.tree_q (k := 6) rfl rfl ?_
          go_big_quiet_step (fail)
          with_reducible refine wpQuiet_nil ?_
          refine M2.tree_e (k := 7) rfl ?_ ?_
          · go_wp2_with ((first | (go_at_call 8; (with_reducible refine (HBs.out _ (by (try unfold Ov); exact ovB O50.out)).mono ?_); rintro _ _ ⟨⟨e7, rfl⟩, v7, rfl, o7⟩; obtain ⟨a7, c7, rfl, s7⟩ := Own.slice Sm.cs_len o7; (try simp only [over_drew] at s7); have S7 := hid s7; clear o7 s7) | (go_at_call 13; (with_reducible refine (HOf.out _ _ _ (by exact slA S7.out)).mono ?_); rintro _ _ ⟨⟨e8, rfl⟩, rfl⟩)))
            refine M2.TreeQ.mk (by (try unfold Ov); exact ovA) ?_
            refine M2.tree_e (k := 8) rfl ?_ ?_
            · go_wp2_with ((first | (go_at_call 8; (with_reducible refine (HBs.out _ (by (try unfold Ov); exact ovB O50.out)).mono ?_); rintro _ _ ⟨⟨e7, rfl⟩, v7, rfl, o7⟩; obtain ⟨a7, c7, rfl, s7⟩ := Own.slice Sm.cs_len o7; (try simp only [over_drew] at s7); have S7 := hid s7; clear o7 s7) | (go_at_call 13; (with_reducible refine (HOf.out _ _ _ (by exact slA S7.out)).mono ?_); rintro _ _ ⟨⟨e8, rfl⟩, rfl⟩)))
              refine M2.TreeQ.mk (by (try unfold Ov); exact ovA) ?_
              refine M2.tree_q (k := 9) rfl rfl ?_
              go_big_quiet_step (fail)
              with_reducible refine wpQuiet_nil ?_
              refine M2.tree_q (k := 10) rfl rfl ?_
              go_big_quiet_step (fail)
              with_reducible refine wpQuiet_nil ?_
              refine M2.tree_q (k := 11) rfl rfl ?_
              go_big_quiet_step (fail)
              with_reducible refine wpQuiet_nil ?_
              refine M2.tree_e (k := 12) rfl ?_ ?_
              · go_wp2_with ((first | (go_at_call 8; (with_reducible refine (HBs.out _ (by (try unfold Ov); exact ovB O50.out)).mono ?_); rintro _ _ ⟨⟨e7, rfl⟩, v7, rfl, o7⟩; obtain ⟨a7, c7, rfl, s7⟩ := Own.slice Sm.cs_len o7; (try simp only [over_drew] at s7); have S7 := hid s7; clear o7 s7) | (go_at_call 13; (with_reducible refine (HOf.out _ _ _ (by exact slA S7.out)).mono ?_); rintro _ _ ⟨⟨e8, rfl⟩, rfl⟩)))
                refine M2.TreeQ.mk (by (try unfold Ov); exact ovA) ?_
                refine M2.tree_e (k := 13) rfl ?_ ?_
                · go_wp2_with ((first | (go_at_call 8; (with_reducible refine (HBs.out _ (by (try unfold Ov); exact ovB O50.out)).mono ?_); rintro _ _ ⟨⟨e7, rfl⟩, v7, rfl, o7⟩; obtain ⟨a7, c7, rfl, s7⟩ := Own.slice Sm.cs_len o7; (try simp only [over_drew] at s7); have S7 := hid s7; clear o7 s7) | (go_at_call 13; (with_reducible refine (HOf.out _ _ _ (by exact slA S7.out)).mono ?_); rintro _ _ ⟨⟨e8, rfl⟩, rfl⟩)))
                  refine M2.TreeQ.mk (by (try unfold Ov); exact ovA) ?_
                  refine M2.tree_q (k := 14) rfl rfl ?_
                  go_big_quiet_step (fail)
                  with_reducible refine wpQuiet_nil ?_
                  refine M2.tree_done ?_
                  go_wp2
                  go_roundw
                  case rel => exact ⟨k + 1, by omega, by go_num, (by (try unfold Ov); exact ovB O50.out)⟩
                  case measure => (simp [intOf]; try omega)
                exact M2.tree_no
              exact M2.tree_no
            refine M2.tree_e (k := 12) rfl ?_ ?_
            · go_wp2_with ((first | (go_at_call 8; (with_reducible refine (HBs.out _ (by (try unfold Ov); exact ovB O50.out)).mono ?_); rintro _ _ ⟨⟨e7, rfl⟩, v7, rfl, o7⟩; obtain ⟨a7, c7, rfl, s7⟩ := Own.slice Sm.cs_len o7; (try simp only [over_drew] at s7); have S7 := hid s7; clear o7 s7) | (go_at_call 13; (with_reducible refine (HOf.out _ _ _ (by exact slA S7.out)).mono ?_); rintro _ _ ⟨⟨e8, rfl⟩, rfl⟩)))
              refine M2.TreeQ.mk (by (try unfold Ov); exact ovA) ?_
              refine M2.tree_e (k := 8) rfl ?_ ?_
              · go_wp2_with ((first | (go_at_call 8; (with_reducible refine (HBs.out _ (by (try unfold Ov); exact ovB O50.out)).mono ?_); rintro _ _ ⟨⟨e7, rfl⟩, v7, rfl, o7⟩; obtain ⟨a7, c7, rfl, s7⟩ := Own.slice Sm.cs_len o7; (try simp only [over_drew] at s7); have S7 := hid s7; clear o7 s7) | (go_at_call 13; (with_reducible refine (HOf.out _ _ _ (by exact slA S7.out)).mono ?_); rintro _ _ ⟨⟨e8, rfl⟩, rfl⟩)))
                refine M2.TreeQ.mk (by (try unfold Ov); exact ovA) ?_
                refine M2.tree_q (k := 9) rfl rfl ?_
                go_big_quiet_step (fail)
                with_reducible refine wpQuiet_nil ?_
                refine M2.tree_q (k := 10) rfl rfl ?_
                go_big_quiet_step (fail)
                with_reducible refine wpQuiet_nil ?_
                refine M2.tree_q (k := 11) rfl rfl ?_
                go_big_quiet_step (fail)
                with_reducible refine wpQuiet_nil ?_
                refine M2.tree_e (k := 13) rfl ?_ ?_
                · go_wp2_with ((first | (go_at_call 8; (with_reducible refine (HBs.out _ (by (try unfold Ov); exact ovB O50.out)).mono ?_); rintro _ _ ⟨⟨e7, rfl⟩, v7, rfl, o7⟩; obtain ⟨a7, c7, rfl, s7⟩ := Own.slice Sm.cs_len o7; (try simp only [over_drew] at s7); have S7 := hid s7; clear o7 s7) | (go_at_call 13; (with_reducible refine (HOf.out _ _ _ (by exact slA S7.out)).mono ?_); rintro _ _ ⟨⟨e8, rfl⟩, rfl⟩)))
                  refine M2.TreeQ.mk (by (try unfold Ov); exact ovA) ?_
                  refine M2.tree_q (k := 14) rfl rfl ?_
                  go_big_quiet_step (fail)
                  with_reducible refine wpQuiet_nil ?_
                  refine M2.tree_done ?_
                  go_wp2
                  go_roundw
                  case rel => exact ⟨k + 1, by omega, by go_num, (by (try unfold Ov); exact ovB O50.out)⟩
                  case measure => (simp [intOf]; try omega)
                exact M2.tree_no
              exact M2.tree_no
            exact M2.tree_no
          refine M2.tree_e (k := 12) rfl ?_ ?_
          · go_wp2_with ((first | (go_at_call 8; (with_reducible refine (HBs.out _ (by (try unfold Ov); exact ovB O50.out)).mono ?_); rintro _ _ ⟨⟨e7, rfl⟩, v7, rfl, o7⟩; obtain ⟨a7, c7, rfl, s7⟩ := Own.slice Sm.cs_len o7; (try simp only [over_drew] at s7); have S7 := hid s7; clear o7 s7) | (go_at_call 13; (with_reducible refine (HOf.out _ _ _ (by exact slA S7.out)).mono ?_); rintro _ _ ⟨⟨e8, rfl⟩, rfl⟩)))
            refine M2.TreeQ.mk (by (try unfold Ov); exact ovA) ?_
            refine M2.tree_e (k := 7) rfl ?_ ?_
            · go_wp2_with ((first | (go_at_call 8; (with_reducible refine (HBs.out _ (by (try unfold Ov); exact ovB O50.out)).mono ?_); rintro _ _ ⟨⟨e7, rfl⟩, v7, rfl, o7⟩; obtain ⟨a7, c7, rfl, s7⟩ := Own.slice Sm.cs_len o7; (try simp only [over_drew] at s7); have S7 := hid s7; clear o7 s7) | (go_at_call 13; (with_reducible refine (HOf.out _ _ _ (by exact slA S7.out)).mono ?_); rintro _ _ ⟨⟨e8, rfl⟩, rfl⟩)))
              refine M2.TreeQ.mk (by (try unfold Ov); exact ovA) ?_
              refine M2.tree_e (k := 8) rfl ?_ ?_
              · go_wp2_with ((first | (go_at_call 8; (with_reducible refine (HBs.out _ (by (try unfold Ov); exact ovB O50.out)).mono ?_); rintro _ _ ⟨⟨e7, rfl⟩, v7, rfl, o7⟩; obtain ⟨a7, c7, rfl, s7⟩ := Own.slice Sm.cs_len o7; (try simp only [over_drew] at s7); have S7 := hid s7; clear o7 s7) | (go_at_call 13; (with_reducible refine (HOf.out _ _ _ (by exact slA S7.out)).mono ?_); rintro _ _ ⟨⟨e8, rfl⟩, rfl⟩)))
                refine M2.TreeQ.mk (by (try unfold Ov); exact ovA) ?_
                refine M2.tree_q (k := 9) rfl rfl ?_
                go_big_quiet_step (fail)
                with_reducible refine wpQuiet_nil ?_
                refine M2.tree_q (k := 10) rfl rfl ?_
                go_big_quiet_step (fail)
                with_reducible refine wpQuiet_nil ?_
                refine M2.tree_q (k := 11) rfl rfl ?_
                go_big_quiet_step (fail)
                with_reducible refine wpQuiet_nil ?_
                refine M2.tree_e (k := 13) rfl ?_ ?_
                · go_wp2_with ((first | (go_at_call 8; (with_reducible refine (HBs.out _ (by (try unfold Ov); exact ovB O50.out)).mono ?_); rintro _ _ ⟨⟨e7, rfl⟩, v7, rfl, o7⟩; obtain ⟨a7, c7, rfl, s7⟩ := Own.slice Sm.cs_len o7; (try simp only [over_drew] at s7); have S7 := hid s7; clear o7 s7) | (go_at_call 13; (with_reducible refine (HOf.out _ _ _ (by exact slA S7.out)).mono ?_); rintro _ _ ⟨⟨e8, rfl⟩, rfl⟩)))
                  refine M2.TreeQ.mk (by (try unfold Ov); exact ovA) ?_
                  refine M2.tree_q (k := 14) rfl rfl ?_
                  go_big_quiet_step (fail)
                  with_reducible refine wpQuiet_nil ?_
                  refine M2.tree_done ?_
                  go_wp2
                  go_roundw
                  case rel => exact ⟨k + 1, by omega, by go_num, (by (try unfold Ov); exact ovB O50.out)⟩
                  case measure => (simp [intOf]; try omega)
                exact M2.tree_no
              exact M2.tree_no
            exact M2.tree_no
          exact M2.tree_no
    · obtain rfl : k = rs.length := by omega
      go_wp2
      go_ret
      exact ⟨(by (try unfold Ov); exact ovB O1.out), rfl⟩
end Go.Proofs.YtneeikjiabpjhaaDoor
