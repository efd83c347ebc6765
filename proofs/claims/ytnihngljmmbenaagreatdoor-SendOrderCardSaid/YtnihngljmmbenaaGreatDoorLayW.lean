import Derived.Test.YtnihngljmmbenaaGreatDoorHE
import Derived.Test.YtnihngljmmbenaaGreatDoorHF
namespace Go.Proofs.YtnihngljmmbenaaGreatDoor
set_option linter.unusedVariables false
set_option linter.unusedSimpArgs false
open Go.RowKit
attribute [local go_sem] over_drew chg_drew

def opsL (xs : List Opr) : List (Nat × Sm) := xs.map fun o => (o.id % 64, o.x)
def lsz (size : Int) : Nat := 1 + (max size 0).toNat % 24
def LayPost (w : World) (sz : Nat) (ops : List (Nat × Sm)) (en : Ending) (w' : World) : Prop :=
  ∃ b mb L a cap rs, en = .returned (.tuple #[.pointer (some ⟨b, 0, none⟩), .slice a (rs : List Rs).length cap]) ∧ (∃ e, w' = over w e) ∧ BkAt w.heap.size w' b 64 sz mb L ∧ bkOf L = layS sz ops ∧ Sl 2 Rs.cs w' a cap rs ∧ (∀ r ∈ rs, SlM w' r.a r.c r.l) ∧ rs.map (fun r => (r.id, r.l)) = allS (layS sz ops)
def LayPostE (w : World) (sz : Nat) (ops : List (Nat × Sm)) (en : Ending) (w' : World) : Prop :=
  ∃ b mb L a cap rs, en = .returned (.tuple #[.pointer (some ⟨b, 0, none⟩), .slice a (rs : List Rs).length cap]) ∧ (∃ e, w' = over w e) ∧ BkAt w.heap.size w' b 64 sz mb L ∧ bkOf L = layS sz ops ∧ Sl 2 Rs.cs w' a cap rs ∧ (∀ r ∈ rs, SlM w' r.a r.c r.l) ∧ rs.map (fun r => (r.id, r.l)) = allS (layS sz ops) ∧ ∀ ad, a = some ad → w.heap.size ≤ ad.block
theorem SlR.at_ {w : World} {a : Option Addr} {cap : Nat} {xs : List Rs} (h : Sl 2 Rs.cs w a cap xs) {k : Nat} (hk : k < xs.length) :
    ∃ b off, a = some ⟨b, off, none⟩ ∧ b < w.heap.size ∧ w.cell? ⟨b, off + k * 2, none⟩ = some (.int .u32 (xs[k].id : Nat)) ∧ w.cell? ⟨b, off + k * 2 + 1, none⟩ = some (.slice xs[k].a xs[k].l.length xs[k].c) := by
  obtain ⟨b, off, rfl, hb, hcell⟩ := h.rec_ k xs[k] (List.getElem?_eq_getElem hk)
  exact ⟨b, off, rfl, hb, hcell 0 _ rfl, hcell 1 _ rfl⟩
theorem OwnR.at_ {base : Nat} {w : World} {v : Value} {xs : List Rs} (h : OwnR base w v xs) {k : Nat} (hk : k < xs.length) :
    ∃ g cap, v = .slice (some ⟨g, 0, none⟩) xs.length cap ∧ g < w.heap.size ∧ w.cell? ⟨g, k * 2, none⟩ = some (.int .u32 (xs[k].id : Nat)) ∧ w.cell? ⟨g, k * 2 + 1, none⟩ = some (.slice xs[k].a xs[k].l.length xs[k].c) ∧ w.frozen? ⟨g, k * 2 + 1, none⟩ = false := by
  obtain ⟨g, cap, rfl, hb, hg, hcell, hfr⟩ := Own.open_ Rs.cs_len h (by omega)
  exact ⟨g, cap, rfl, hg, hcell k _ (List.getElem?_eq_getElem hk) 0 _ rfl, hcell k _ (List.getElem?_eq_getElem hk) 1 _ rfl, hfr _⟩
theorem end_old {sz : Nat} {S : List (Nat × Sr)} {rs : List Rs} {j d : Nat} {x : Sm} (hA : rs.map (fun r => (r.id, r.l)) = allS S) (hI : (S.map (·.1)).Nodup) (hj : j < rs.length) (h2 : j < S.length) (h3 : rs[j].id = S[j].1) (h4 : rs[j].l = S[j].2.all) (hd : rs[j].id = d) :
    (rs.map (fun r => (r.id, r.l))).set j (rs[j].id, [] ++ rs[j].l ++ [x]) = allS (putS sz S d x) := by
  rw [← hd, h3, allS_old hI h2, hA, h4]
  simp
theorem end_new {sz : Nat} {S : List (Nat × Sr)} {rs : List Rs} {d : Nat} {x : Sm} (hA : rs.map (fun r => (r.id, r.l)) = allS S) (hn : ∀ r ∈ rs, r.id ≠ d) {rs5 : List Rs} (h5 : rs5 = rs ++ [⟨d, none, 0, []⟩]) (hj : rs.length < rs5.length) :
    (rs5.map (fun r => (r.id, r.l))).set rs.length (rs5[rs.length].id, [] ++ rs5[rs.length].l ++ [x]) = allS (putS sz S d x) := by
  subst h5
  have hS : ∀ y ∈ S, y.1 ≠ d := by
    intro y hy
    have h1 : (y.1, y.2.all) ∈ rs.map (fun r => (r.id, r.l)) := by rw [hA]; exact List.mem_map.2 ⟨y, hy, rfl⟩
    obtain ⟨r, hr, he⟩ := List.mem_map.1 h1
    simp only [Prod.mk.injEq] at he
    rw [← he.1]; exact hn r hr
  rw [allS_new hS, List.map_append, hA]
  simp
  have hl : (allS S).length = rs.length := by rw [← hA]; simp
  rw [List.set_append_right _ _ (by omega), hl]
  simp
set_option maxRecDepth 100000 in
set_option maxHeartbeats 4000000 in
theorem layE_any (size : Int) (hz : -9223372036854775808 ≤ size ∧ size ≤ 9223372036854775807) (xs : List Opr) (hx : ∀ o ∈ xs, o.wf) (hl : xs.length ≤ 60) (a : Option Addr) (cap : Nat) (w : World) (hT : TabW w) (hs : SlO w a cap xs) :
    Calls Tryz.prog 14 #[.int .i64 size, .slice a xs.length cap] w (LayPostE w (lsz size) (opsL xs)) := by
  obtain ⟨sz, hsz⟩ : ∃ sz, lsz size = sz := ⟨_, rfl⟩
  have hsz1 : 1 ≤ sz ∧ sz ≤ 24 := by rw [← hsz]; unfold lsz; omega
  have HN : Hid (∀ W, Calls Tryz.prog 28 #[.int .i64 64, .int .i64 (sz : Nat)] W (NewPost W 64 sz)) := hid (fun W => new_any 64 sz (by omega) hsz1 W)
  have hsi : 1 + max size 0 % 24 = (sz : Int) := by
    rw [← hsz]; unfold lsz
    omega
  rw [hsz]
  have HSI := hid hsi
  have h0w : 0 < w.heap.size := hT.1
  obtain ⟨ops, hops⟩ : ∃ ops, opsL xs = ops := ⟨_, rfl⟩
  have hol : ops.length = xs.length := by rw [← hops]; simp [opsL]
  rw [hops]
  have HT := hid hT
  have HX := hid hx
  have HOP : Hid (∀ k, (h : k < xs.length) → ∃ h2 : k < ops.length, ops[k] = (xs[k].id % 64, xs[k].x)) := hid (fun k h => ⟨by omega, by subst hops; simp [opsL]⟩)
  clear hsz hsi hT hops hx
  go_enter Tryz.func14, Tryz.ntmps14
  go_wp2_with (first
    | (rw [HSI.out]
       go_at_call 28
       (with_reducible refine (HN.out _).mono ?_)
       rintro _ W0 ⟨b, mb, rfl, ⟨e0, hW0⟩, hb⟩
       have O0 : Hid (∃ e, W0 = over w e) := hid ⟨e0, hW0⟩
       have hw0 : w.heap.size ≤ W0.heap.size := by rw [hW0]; simp
       have HB := hid hb
       have hmb := hb.lo.2
       clear hW0 hb))
  go_loopw [7, 8, 9, 10] (fun v i _ _ wr => ∃ (k : Nat) (rs : List Rs) (L : List Se), k ≤ xs.length ∧ i = .int .i64 (k : Nat) ∧ LayR W0 wr w.heap.size b mb sz L v rs ∧ bkOf L = layS sz (ops.take k) ∧ rs.map (fun r => (r.id, r.l)) = allS (layS sz (ops.take k))) (fun _ i _ _ _ => xs.length - (intOf i).toNat)
  case atStart => exact ⟨0, [], [], Nat.zero_le _, rfl, LayR.start HB.out, rfl, rfl⟩
  case round =>
    obtain ⟨k, rs, L, hk, rfl, hR, hS, hA⟩ := hrel
    obtain ⟨av, cv, rfl, hsl⟩ := Own.slice Rs.cs_len hR.all
    by_cases hlt : k < xs.length
    · obtain ⟨h2, hop⟩ := HOP.out k hlt
      obtain ⟨bl, off, rfl, hbl, x1, x2, x3, _⟩ := hs.at_ hlt
      have hxw := HX.out _ (List.getElem_mem hlt)
      have hnext := layS_take (sz := sz) h2
      have hI := layI hsz1.1 ops k (by omega)
      rw [hop] at hnext
      obtain ⟨S, hSS⟩ : ∃ S, layS sz (ops.take k) = S := ⟨_, rfl⟩
      rw [hSS] at hS hA hnext hI

      have HC : Hid (Chg [mb] w wr) := hid (Chg.trans (Chg.of_ov O0.out [mb]) hR.ch)
      obtain ⟨d, hd⟩ : ∃ d, xs[k].id % 64 = d := ⟨_, rfl⟩
      have hdi : (xs[k].id : Int) % 64 = (d : Int) := by omega
      have hd64 : d < 64 := by omega
      rw [hd] at hnext
      generalize xs[k] = x at *
      have hcl : (getS (bkOf L) d).cl.length ≤ 900 := by
        rcases get_or L d with ⟨i, hi, h1, h3⟩ | ⟨h1, h3⟩
        · have hm : (L[i].id, L[i].s) ∈ S := by rw [← hS]; exact List.mem_map.2 ⟨L[i], List.getElem_mem hi, rfl⟩
          have h4 := (hI.all _ hm).1
          have h5 := cl_le ((hR.bk.ser _ (List.getElem_mem hi)).ok) h4
          rw [h3]; omega
        · rw [h3]; simp [Sr.zero]
      have hLl : L.length < 64 := by
        have := hI.len
        rw [← hS] at this
        simp at this; omega
      have hTr : TabW wr := TabW.cg HT.out HC.out (by simp; omega)
      have HP0 := hid (fun W (hW : Chg [] wr W) => put_any (hR.bk.cg hW (by simp)) (Nat.le_trans hw0 (Nat.le_trans hR.ch.size hW.size)) (TabW.cg hTr hW (by simp)) hLl (by omega) hsz1.2 hsz1.1 (id := d) (by omega) hcl x.x hxw.2)
      have y1 : wr.cell? ⟨bl, off + k * 17 + 1, none⟩ = some (.int .u32 (x.id : Nat)) := by obtain ⟨m, hm⟩ := chg_of HC.out; rw [hm, cell_chg _ _ _ _ _ hbl (by simp; omega)]; exact x1
      have y2 : wr.cell? ⟨bl, off + k * 17 + 2, none⟩ = some (.int .i64 x.x.t) := by obtain ⟨m, hm⟩ := chg_of HC.out; rw [hm, cell_chg _ _ _ _ _ hbl (by simp; omega)]; exact x2
      have y3 : wr.cell? ⟨bl, off + k * 17 + 3, none⟩ = some (.int .u64 (x.x.v : Nat)) := by obtain ⟨m, hm⟩ := chg_of HC.out; rw [hm, cell_chg _ _ _ _ _ hbl (by simp; omega)]; exact x3
      have hbr : bl < wr.heap.size := Nat.lt_of_lt_of_le hbl HC.out.size
      have HR := hid hR
      have HS := hid hS
      have HA := hid hA
      have HNX := hid hnext
      have HI := hid hI
      have HXW := hid hxw
      have X1 := hid x1
      have X2 := hid x2
      have X3 := hid x3
      have HD := hid hd
      clear hR hS hA hnext hI hTr hcl hsl hxw x1 x2 x3 hop hd hSS hs
      by_cases hm : (getS S d).may x.x.t
      · have HPut : Hid (∀ W, Chg [] wr W → Calls Tryz.prog 39 #[.pointer (some ⟨b, 0, none⟩), .int .u32 (d : Nat), smV x.x.t x.x.v] W (fun en w' => en = .returned (.int .u16 0) ∧ ∃ L', LayR W0 w' w.heap.size b mb sz L' (.slice av rs.length cv) rs ∧ bkOf L' = putS sz S d x.x)) := hid (fun W hW => (HP0.out W hW).mono (fun en w' hp => by
          unfold PutB at hp
          rw [HS.out, if_pos hm] at hp
          exact (HR.out.ov hW).put hp))
        clear HP0
        go_wp2
        refine M2.wp_region_mix [12] 12 (by kernel_rfl) (by kernel_rfl) (by decide) ?_
        simp only [M2.td]
        with_reducible refine M2.mixL_quiet 12 (by kernel_rfl) ?_
        simp only [M2.td]
        repeat (go_big_quiet_step (fail))
        with_reducible refine wpQuiet_nil ?_
        with_reducible refine M2.mixL_nil ?_
        with_reducible refine M2.mixL_eff (by decide) ?_
        go_wp2_with ((go_at_call 39; (with_reducible refine (HPut.out _ (by exact chA)).mono ?_); rintro _ w1 ⟨rfl, L', hR1, hS1⟩; have HR1 := hid hR1; have HS1 := hid hS1; clear hR1 hS1))
        refine M2.MixQ.mk trivial ?_
        with_reducible refine M2.mixL_quiet 1 (by kernel_rfl) ?_
        simp only [M2.td]
        repeat (go_big_quiet_step (fail))
        with_reducible refine wpQuiet_nil ?_
        with_reducible refine M2.mixL_nil ?_
        have HC1 : Hid (Chg [mb] w w1) := hid (Chg.trans (Chg.of_ov O0.out [mb]) HR1.out.ch)
        have y1 : w1.cell? ⟨bl, off + k * 17 + 1, none⟩ = some (.int .u32 (x.id : Nat)) := by obtain ⟨m, hm⟩ := chg_of HC1.out; rw [hm, cell_chg _ _ _ _ _ hbl (by simp; omega)]; exact X1.out
        have y2 : w1.cell? ⟨bl, off + k * 17 + 2, none⟩ = some (.int .i64 x.x.t) := by obtain ⟨m, hm⟩ := chg_of HC1.out; rw [hm, cell_chg _ _ _ _ _ hbl (by simp; omega)]; exact X2.out
        have y3 : w1.cell? ⟨bl, off + k * 17 + 3, none⟩ = some (.int .u64 (x.x.v : Nat)) := by obtain ⟨m, hm⟩ := chg_of HC1.out; rw [hm, cell_chg _ _ _ _ _ hbl (by simp; omega)]; exact X3.out
        have hb1 : bl < w1.heap.size := Nat.lt_of_lt_of_le hbl HC1.out.size
        have SL1 := hid (Own.slice' Rs.cs_len HR1.out.all).2
        have HRS : Hid (rs.length = S.length) := hid (by have := congrArg List.length HA.out; simpa [allS] using this)
        have HRI : Hid (∀ j, (h : j < rs.length) → ∃ h2 : j < S.length, rs[j].id = S[j].1 ∧ rs[j].l = S[j].2.all) := hid (fun j h => by
          have h2 : j < S.length := by rw [← HRS.out]; exact h
          have h3 := congrArg (fun l => l[j]?) HA.out
          simp [allS, List.getElem?_eq_getElem h, List.getElem?_eq_getElem h2] at h3
          exact ⟨h2, h3.1, h3.2⟩)
        have HL0 : Hid (∀ r ∈ rs, r.l.length ≤ k) := hid (fun r hr => by
          obtain ⟨j, hj, rfl⟩ := List.getElem_of_mem hr
          obtain ⟨h2, _, h4⟩ := HRI.out j hj
          rw [h4]
          exact (HI.out.all _ (List.getElem_mem h2)).1)
        have hrsl : rs.length ≤ 60 := by have := HI.out.len; have := HRS.out; omega
        go_wp2
        go_loopw [9] (fun jv wx => ∃ j : Nat, j ≤ rs.length ∧ jv = .int .i64 (j : Nat) ∧ (∀ i, (h : i < rs.length) → i < j → rs[i].id ≠ d) ∧ Ov w1 wx) (fun jv _ => rs.length - (intOf jv).toNat)
        case atStart => exact ⟨0, Nat.zero_le _, rfl, fun i _ h => by omega, ovA⟩
        case round =>
          obtain ⟨j, hj, rfl, hbef, ⟨ej, rfl⟩⟩ := hrel
          have HBF := hid hbef
          clear hbef
          by_cases hjl : j < rs.length
          · obtain ⟨bq, oq, rfl, hbq, q0, q1⟩ := SlR.at_ SL1.out hjl
            by_cases hjd : rs[j].id = d
            · have HJD := hid hjd
              rw [hjd] at q0
              have hje : ((j : Int) == (rs.length : Int)) = false := by rw [beq_eq_false_iff_ne]; omega
              go_wp2
              refine wp_region_over (by kernel_rfl) (by kernel_rfl) ?_
              repeat (go_big_quiet_step ((fail)))
              refine wpQuiet_nil ?_
              intro _ hw'
              obtain ⟨nq, rfl⟩ := hw'
              refine gen_w ?_
              intro W5 hW5
              have C15 : Hid (Chg [] w1 W5) := hid (Chg.of_ov (by rw [hW5]; exact ovA) [])
              clear hW5
              have HR5 := hid (HR1.out.ov C15.out)
              have HC5 : Hid (Chg [mb] w W5) := hid (Chg.trans (Chg.of_ov O0.out [mb]) HR5.out.ch)
              have y25 : W5.cell? ⟨bl, off + k * 17 + 2, none⟩ = some (.int .i64 x.x.t) := by obtain ⟨m, hm⟩ := chg_of HC5.out; rw [hm, cell_chg _ _ _ _ _ hbl (by simp; omega)]; exact X2.out
              have y35 : W5.cell? ⟨bl, off + k * 17 + 3, none⟩ = some (.int .u64 (x.x.v : Nat)) := by obtain ⟨m, hm⟩ := chg_of HC5.out; rw [hm, cell_chg _ _ _ _ _ hbl (by simp; omega)]; exact X3.out
              have hb5 : bl < W5.heap.size := Nat.lt_of_lt_of_le hbl HC5.out.size
              clear y1 y2 y3 hb1
              have hj5 := hjl
              have HL5 : Hid (∀ r ∈ rs, r.l.length ≤ 60) := hid (fun r hr => by have := HL0.out r hr; omega)
              clear q0 q1
              obtain ⟨gq, cq, hvq, hgq, z0, z1, zf⟩ := OwnR.at_ HR5.out.all hj5
              obtain ⟨hq1, _, hq2⟩ := Value.slice.inj hvq
              cases hq1
              cases hq2
              have hrow := HR5.out.rows _ (List.getElem_mem hj5)
              have hrl : rs[j].l.length ≤ 60 := by
                have := HL5.out _ (List.getElem_mem hj5)
                omega
              have hHR5 := HR5.out.ch.size
              obtain ⟨r5, hr5⟩ : ∃ r, rs[j] = r := ⟨_, rfl⟩
              rw [hr5] at hrow hrl z0 z1
              have HROW := hid hrow
              have HR5J := hid hr5
              have hs5 := (Own.slice' (sz := 2) (cells := Sm.cs) (fun _ => rfl) hrow).2
              have HS5 := hid hs5
              clear hrow hr5 hs5
              go_wp2_with (first
                | (at_builtin
                   refine wpList_append' sample_elem (fun _ => rfl) Sm.cs_one rfl (.tmp 72) (.tmp 77) rfl (base := W0.heap.size) (v := .slice none 0 0) (ys := []) (xs := r5.l) (Own.nil _) rfl rfl hHR5 HS5.out (by simp only [List.length_nil]; unfold maxLen; omega) (by simp only [List.length_nil]; omega) ?_
                   intro v6 m6 ho6 hv6
                   obtain ⟨a6, c6, hve, _⟩ := Own.slice (sz := 2) (cells := Sm.cs) (fun _ => rfl) ho6
                   subst hve
                   refine gen_w ?_
                   intro W6 hW6
                   have C56 : Hid (Chg [] W5 W6) := hid (by rw [hW6]; exact chg_chg _ _ _)
                   have HO6 := hid ho6
                   rw [← hW6] at HO6
                   have HV6 := hid hv6
                   have y2' : W6.cell? ⟨bl, off + k * 17 + 2, none⟩ = some (.int .i64 x.x.t) := by obtain ⟨m, hm⟩ := chg_of C56.out; rw [hm, cell_chg _ _ _ _ _ hb5 (by simp)]; exact y25
                   have y3' : W6.cell? ⟨bl, off + k * 17 + 3, none⟩ = some (.int .u64 (x.x.v : Nat)) := by obtain ⟨m, hm⟩ := chg_of C56.out; rw [hm, cell_chg _ _ _ _ _ hb5 (by simp)]; exact y35
                   have hb6 : bl < W6.heap.size := Nat.lt_of_lt_of_le hb5 C56.out.size
                   obtain ⟨n6, hn6⟩ : ∃ n, ([] ++ r5.l).length = n := ⟨_, rfl⟩
                   rw [hn6] at HO6 HV6 ⊢
                   clear hW6 ho6 hv6 hn6)
                | (at_builtin
                   refine gen_w ?_
                   intro W7 hW7
                   have C67 : Hid (Chg [] W6 W7) := hid (by rw [hW7]; exact (by exact chA))
                   have S7 : Hid (SlM W7 (some ⟨W6.heap.size, 0, none⟩) 1 [x.x]) := hid (by rw [hW7]; exact (by (repeat with_reducible refine Sl.drew ?_); exact Sl.one_new (y := x.x) (by simp; try omega)))
                   have HO7 := hid (Own.chg HO6.out C67.out (by simp))
                   have hb7 : W0.heap.size ≤ W7.heap.size := Nat.le_trans hHR5 (Nat.le_trans C56.out.size C67.out.size)
                   clear hW7
                   refine wpList_append' sample_elem (fun _ => rfl) Sm.cs_one rfl (.tmp 79) (.tmp 85) rfl (base := W0.heap.size) (ys := [] ++ r5.l) (xs := [x.x]) HO7.out rfl rfl hb7 S7.out (by simp only [List.length_append, List.length_nil, List.length_singleton]; unfold maxLen; omega) (by simp only [List.length_append, List.length_nil, List.length_singleton]; omega) ?_
                   intro v8 m8 ho8 hv8
                   obtain ⟨a8, c8, hve, _⟩ := Own.slice (sz := 2) (cells := Sm.cs) (fun _ => rfl) ho8
                   subst hve
                   refine gen_w ?_
                   intro W8 hW8
                   have C78 : Hid (Chg (Value.slice a6 n6 c6).ownBlock.toList W7 W8) := hid (by rw [hW8]; exact chg_chg _ _ _)
                   have HO8 := hid ho8
                   rw [← hW8] at HO8
                   have HV8 := hid hv8
                   obtain ⟨n8, hn8⟩ : ∃ n, ([] ++ r5.l ++ [x.x]).length = n := ⟨_, rfl⟩
                   rw [hn8] at HO8 HV8 ⊢
                   clear hW8 ho8 hv8 hn8
                   have C58 : Hid (Chg [] W5 W8) := hid (Chg.then (Chg.trans C56.out C67.out) C78.out (fun g hg => by
                     have hg' : (Value.slice a6 n6 c6).ownBlock = some g := by simpa using hg
                     rcases HV6.out with h1 | ⟨g', h1, h2⟩
                     · rw [h1] at hg'; simp [Value.ownBlock] at hg'
                     · rw [h1] at hg'
                       have := Option.some.inj hg'
                       exact .inr (by omega)))
                   have HG8 : Hid (∀ g, (Value.slice a8 n8 c8).ownBlock = some g → W5.heap.size ≤ g) := hid (fun g hg => by
                     have h56 := C56.out.size
                     have h67 := C67.out.size
                     rcases HV8.out with h1 | ⟨g', h1, h2⟩
                     · rw [h1] at hg
                       rcases HV6.out with h3 | ⟨g', h3, h4⟩
                       · rw [h3] at hg; simp [Value.ownBlock] at hg
                       · rw [h3] at hg
                         have := Option.some.inj hg
                         omega
                     · rw [h1] at hg
                       have := Option.some.inj hg
                       omega)
                   have z0' : W8.cell? ⟨bq, j * 2, none⟩ = some (.int .u32 (r5.id : Nat)) := by obtain ⟨m, hm⟩ := chg_of C58.out; rw [hm, cell_chg _ _ _ _ _ hgq (by simp)]; exact z0
                   have z1' : W8.cell? ⟨bq, j * 2 + 1, none⟩ = some (.slice r5.a r5.l.length r5.c) := by obtain ⟨m, hm⟩ := chg_of C58.out; rw [hm, cell_chg _ _ _ _ _ hgq (by simp)]; exact z1
                   have zf' : W8.frozen? ⟨bq, j * 2 + 1, none⟩ = false := by obtain ⟨m, hm⟩ := chg_of C58.out; rw [hm, frozen_chg _ _ _ _ _ hgq (by simp)]; exact zf
                   have hg8 : bq < W8.heap.size := Nat.lt_of_lt_of_le hgq C58.out.size))
              go_roundw
              case rel =>
                refine ⟨k + 1, rs.set j ⟨rs[j].id, a8, c8, [] ++ r5.l ++ [x.x]⟩, L', by omega, by go_num, ?_, ?_, ?_⟩
                · exact (HR5.out.row C58.out hj5 HO8.out HG8.out)
                · rw [HNX.out]; unfold stepS; rw [if_pos (by exact hm)]; exact HS1.out
                · rw [HNX.out]; unfold stepS; rw [if_pos (by exact hm)]
                  show _ = allS (putS sz S d x.x)
                  rw [List.map_set, ← HR5J.out]
                  exact (by obtain ⟨h2, h3, h4⟩ := HRI.out j hjl; exact end_old HA.out HI.out.ids hjl h2 h3 h4 HJD.out)
              case measure => (simp [intOf]; try omega)
            · have hjn : ((rs[j].id : Int) == (d : Int)) = false := by rw [beq_eq_false_iff_ne]; omega
              have hjn2 : (rs[j].id == d) = false := by rw [beq_eq_false_iff_ne]; omega
              have HJN := hid hjd
              generalize hrj : rs[j].id = rj at q0 hjn hjn2
              have HRJ := hid hrj
              clear hrj hjd
              go_wp2
              refine wp_region_over (by kernel_rfl) (by kernel_rfl) ?_
              repeat (go_big_quiet_step ((fail)))
              refine wpQuiet_nil ?_
              intro _ hw'
              obtain ⟨nq, rfl⟩ := hw'
              go_wp2
              go_roundw
              case rel =>
                refine ⟨j + 1, by omega, by go_num, fun i h hi => ?_, ovA⟩
                rcases Nat.lt_or_ge i j with h1 | h1
                · exact HBF.out i h h1
                · obtain rfl : i = j := by omega
                  exact HJN.out
              case measure => (simp [intOf]; try omega)
          · obtain rfl : j = rs.length := by omega
            go_wp2
            refine wp_region_over (by kernel_rfl) (by kernel_rfl) ?_
            repeat (go_big_quiet_step ((fail)))
            refine wpQuiet_nil ?_
            intro _ hw'
            obtain ⟨nq, rfl⟩ := hw'
            refine gen_w ?_
            intro W2 hW2
            have C12 : Hid (Chg [] w1 W2) := hid (Chg.of_ov (by rw [hW2]; exact ovA) [])
            clear hW2
            have HR2 := hid (HR1.out.ov C12.out)
            have HC2 : Hid (Chg [mb] w W2) := hid (Chg.trans (Chg.of_ov O0.out [mb]) HR2.out.ch)
            have y12 : W2.cell? ⟨bl, off + k * 17 + 1, none⟩ = some (.int .u32 (x.id : Nat)) := by obtain ⟨m, hm⟩ := chg_of HC2.out; rw [hm, cell_chg _ _ _ _ _ hbl (by simp; omega)]; exact X1.out
            have hb2 : bl < W2.heap.size := Nat.lt_of_lt_of_le hbl HC2.out.size
            go_wp2_with (
              at_builtin
              refine gen_w ?_
              intro W3 hW3
              have C23 : Hid (Chg [] W2 W3) := hid (by rw [hW3]; exact (by exact chA))
              have S3 : Hid (Sl 2 Rs.cs W3 (some ⟨W2.heap.size, 0, none⟩) 1 [(⟨d, none, 0, []⟩ : Rs)]) := hid (by rw [hW3]; exact (by (repeat with_reducible refine Sl.drew ?_); exact Sl.one_new (y := (⟨d, none, 0, []⟩ : Rs)) (by simp; try omega)))
              have HR3 := hid (HR2.out.ov C23.out)
              clear hW3
              refine wpList_append' rs_elem Rs.cs_len Rs.cs_one rfl (.tmp 62) (.tmp 70) rfl (base := W0.heap.size) (ys := rs) (xs := [⟨d, none, 0, []⟩]) HR3.out.all rfl rfl HR3.out.ch.size S3.out (by simp only [List.length_singleton]; unfold maxLen; omega) (by simp only [List.length_singleton]; omega) ?_
              intro v4 m4 ho4 hv4
              obtain ⟨a4, c4, hve, _⟩ := Own.slice Rs.cs_len ho4
              subst hve
              refine gen_w ?_
              intro W5 hW5
              have C35 : Hid (Chg (Value.slice av rs.length cv).ownBlock.toList W3 W5) := hid (by rw [hW5]; exact chg_chg _ _ _)
              have HO5 := hid ho4
              rw [← hW5] at HO5
              have HR5 := hid (HR3.out.push C35.out HO5.out hv4)
              obtain ⟨rs5, hrs5⟩ : ∃ r, rs ++ [⟨d, none, 0, []⟩] = r := ⟨_, rfl⟩
              rw [hrs5] at HR5 ⊢
              have HE5 := hid hrs5.symm
              have hj5 : rs.length < rs5.length := by rw [← hrs5]; simp
              clear hW5 ho4 hv4 hrs5 HO5 y12 hb2
              have HC5 : Hid (Chg [mb] w W5) := hid (Chg.trans (Chg.of_ov O0.out [mb]) HR5.out.ch)
              have y25 : W5.cell? ⟨bl, off + k * 17 + 2, none⟩ = some (.int .i64 x.x.t) := by obtain ⟨m, hm⟩ := chg_of HC5.out; rw [hm, cell_chg _ _ _ _ _ hbl (by simp; omega)]; exact X2.out
              have y35 : W5.cell? ⟨bl, off + k * 17 + 3, none⟩ = some (.int .u64 (x.x.v : Nat)) := by obtain ⟨m, hm⟩ := chg_of HC5.out; rw [hm, cell_chg _ _ _ _ _ hbl (by simp; omega)]; exact X3.out
              have hb5 : bl < W5.heap.size := Nat.lt_of_lt_of_le hbl HC5.out.size
              clear y1 y2 y3 hb1
              have HL5 : Hid (∀ r ∈ rs5, r.l.length ≤ 60) := hid (fun r hr => by
                rw [HE5.out] at hr
                rcases List.mem_append.1 hr with hr | hr
                · have := HL0.out r hr; omega
                · simp at hr; subst hr; simp)
              skip)
            obtain ⟨gq, cq, hvq, hgq, z0, z1, zf⟩ := OwnR.at_ HR5.out.all hj5
            obtain ⟨hq1, _, hq2⟩ := Value.slice.inj hvq
            cases hq1
            cases hq2
            have hrow := HR5.out.rows _ (List.getElem_mem hj5)
            have hrl : rs5[rs.length].l.length ≤ 60 := by
              have := HL5.out _ (List.getElem_mem hj5)
              omega
            have hHR5 := HR5.out.ch.size
            obtain ⟨r5, hr5⟩ : ∃ r, rs5[rs.length] = r := ⟨_, rfl⟩
            rw [hr5] at hrow hrl z0 z1
            have HROW := hid hrow
            have HR5J := hid hr5
            have hs5 := (Own.slice' (sz := 2) (cells := Sm.cs) (fun _ => rfl) hrow).2
            have HS5 := hid hs5
            clear hrow hr5 hs5
            go_wp2_with (first
              | (at_builtin
                 refine wpList_append' sample_elem (fun _ => rfl) Sm.cs_one rfl (.tmp 72) (.tmp 77) rfl (base := W0.heap.size) (v := .slice none 0 0) (ys := []) (xs := r5.l) (Own.nil _) rfl rfl hHR5 HS5.out (by simp only [List.length_nil]; unfold maxLen; omega) (by simp only [List.length_nil]; omega) ?_
                 intro v6 m6 ho6 hv6
                 obtain ⟨a6, c6, hve, _⟩ := Own.slice (sz := 2) (cells := Sm.cs) (fun _ => rfl) ho6
                 subst hve
                 refine gen_w ?_
                 intro W6 hW6
                 have C56 : Hid (Chg [] W5 W6) := hid (by rw [hW6]; exact chg_chg _ _ _)
                 have HO6 := hid ho6
                 rw [← hW6] at HO6
                 have HV6 := hid hv6
                 have y2' : W6.cell? ⟨bl, off + k * 17 + 2, none⟩ = some (.int .i64 x.x.t) := by obtain ⟨m, hm⟩ := chg_of C56.out; rw [hm, cell_chg _ _ _ _ _ hb5 (by simp)]; exact y25
                 have y3' : W6.cell? ⟨bl, off + k * 17 + 3, none⟩ = some (.int .u64 (x.x.v : Nat)) := by obtain ⟨m, hm⟩ := chg_of C56.out; rw [hm, cell_chg _ _ _ _ _ hb5 (by simp)]; exact y35
                 have hb6 : bl < W6.heap.size := Nat.lt_of_lt_of_le hb5 C56.out.size
                 obtain ⟨n6, hn6⟩ : ∃ n, ([] ++ r5.l).length = n := ⟨_, rfl⟩
                 rw [hn6] at HO6 HV6 ⊢
                 clear hW6 ho6 hv6 hn6)
              | (at_builtin
                 refine gen_w ?_
                 intro W7 hW7
                 have C67 : Hid (Chg [] W6 W7) := hid (by rw [hW7]; exact (by exact chA))
                 have S7 : Hid (SlM W7 (some ⟨W6.heap.size, 0, none⟩) 1 [x.x]) := hid (by rw [hW7]; exact (by (repeat with_reducible refine Sl.drew ?_); exact Sl.one_new (y := x.x) (by simp; try omega)))
                 have HO7 := hid (Own.chg HO6.out C67.out (by simp))
                 have hb7 : W0.heap.size ≤ W7.heap.size := Nat.le_trans hHR5 (Nat.le_trans C56.out.size C67.out.size)
                 clear hW7
                 refine wpList_append' sample_elem (fun _ => rfl) Sm.cs_one rfl (.tmp 79) (.tmp 85) rfl (base := W0.heap.size) (ys := [] ++ r5.l) (xs := [x.x]) HO7.out rfl rfl hb7 S7.out (by simp only [List.length_append, List.length_nil, List.length_singleton]; unfold maxLen; omega) (by simp only [List.length_append, List.length_nil, List.length_singleton]; omega) ?_
                 intro v8 m8 ho8 hv8
                 obtain ⟨a8, c8, hve, _⟩ := Own.slice (sz := 2) (cells := Sm.cs) (fun _ => rfl) ho8
                 subst hve
                 refine gen_w ?_
                 intro W8 hW8
                 have C78 : Hid (Chg (Value.slice a6 n6 c6).ownBlock.toList W7 W8) := hid (by rw [hW8]; exact chg_chg _ _ _)
                 have HO8 := hid ho8
                 rw [← hW8] at HO8
                 have HV8 := hid hv8
                 obtain ⟨n8, hn8⟩ : ∃ n, ([] ++ r5.l ++ [x.x]).length = n := ⟨_, rfl⟩
                 rw [hn8] at HO8 HV8 ⊢
                 clear hW8 ho8 hv8 hn8
                 have C58 : Hid (Chg [] W5 W8) := hid (Chg.then (Chg.trans C56.out C67.out) C78.out (fun g hg => by
                   have hg' : (Value.slice a6 n6 c6).ownBlock = some g := by simpa using hg
                   rcases HV6.out with h1 | ⟨g', h1, h2⟩
                   · rw [h1] at hg'; simp [Value.ownBlock] at hg'
                   · rw [h1] at hg'
                     have := Option.some.inj hg'
                     exact .inr (by omega)))
                 have HG8 : Hid (∀ g, (Value.slice a8 n8 c8).ownBlock = some g → W5.heap.size ≤ g) := hid (fun g hg => by
                   have h56 := C56.out.size
                   have h67 := C67.out.size
                   rcases HV8.out with h1 | ⟨g', h1, h2⟩
                   · rw [h1] at hg
                     rcases HV6.out with h3 | ⟨g', h3, h4⟩
                     · rw [h3] at hg; simp [Value.ownBlock] at hg
                     · rw [h3] at hg
                       have := Option.some.inj hg
                       omega
                   · rw [h1] at hg
                     have := Option.some.inj hg
                     omega)
                 have z0' : W8.cell? ⟨gq, rs.length * 2, none⟩ = some (.int .u32 (r5.id : Nat)) := by obtain ⟨m, hm⟩ := chg_of C58.out; rw [hm, cell_chg _ _ _ _ _ hgq (by simp)]; exact z0
                 have z1' : W8.cell? ⟨gq, rs.length * 2 + 1, none⟩ = some (.slice r5.a r5.l.length r5.c) := by obtain ⟨m, hm⟩ := chg_of C58.out; rw [hm, cell_chg _ _ _ _ _ hgq (by simp)]; exact z1
                 have zf' : W8.frozen? ⟨gq, rs.length * 2 + 1, none⟩ = false := by obtain ⟨m, hm⟩ := chg_of C58.out; rw [hm, frozen_chg _ _ _ _ _ hgq (by simp)]; exact zf
                 have hg8 : gq < W8.heap.size := Nat.lt_of_lt_of_le hgq C58.out.size))
            go_roundw
            case rel =>
              refine ⟨k + 1, rs5.set rs.length ⟨rs5[rs.length].id, a8, c8, [] ++ r5.l ++ [x.x]⟩, L', by omega, by go_num, ?_, ?_, ?_⟩
              · exact (HR5.out.row C58.out hj5 HO8.out HG8.out)
              · rw [HNX.out]; unfold stepS; rw [if_pos (by exact hm)]; exact HS1.out
              · rw [HNX.out]; unfold stepS; rw [if_pos (by exact hm)]
                show _ = allS (putS sz S d x.x)
                rw [List.map_set, ← HR5J.out]
                exact (end_new HA.out (fun r hr => by obtain ⟨i, hi, rfl⟩ := List.getElem_of_mem hr; exact HBF.out i hi hi) HE5.out hj5)
            case measure => (simp [intOf]; try omega)
      · have HPut : Hid (∀ W, Chg [] wr W → Calls Tryz.prog 39 #[.pointer (some ⟨b, 0, none⟩), .int .u32 (d : Nat), smV x.x.t x.x.v] W (Ret W (.int .u16 120))) := hid (fun W hW => (HP0.out W hW).mono (fun en w' hp => by
          unfold PutB at hp
          rw [HS.out, if_neg hm] at hp
          exact hp))
        clear HP0
        go_wp2
        refine M2.wp_region_mix [12] 14 (by kernel_rfl) (by kernel_rfl) (by decide) ?_
        simp only [M2.td]
        with_reducible refine M2.mixL_quiet 12 (by kernel_rfl) ?_
        simp only [M2.td]
        repeat (go_big_quiet_step (fail))
        with_reducible refine wpQuiet_nil ?_
        with_reducible refine M2.mixL_eff (by decide) ?_
        go_wp2_with ((go_at_call 39; (with_reducible refine (HPut.out _ (by exact chA)).mono ?_); rintro _ _ ⟨⟨e1, rfl⟩, rfl⟩))
        refine M2.MixQ.mk ovA ?_
        with_reducible refine M2.mixL_quiet 1 (by kernel_rfl) ?_
        simp only [M2.td]
        repeat (go_big_quiet_step (fail))
        with_reducible refine wpQuiet_nil ?_
        with_reducible refine M2.mixL_nil ?_
        with_reducible refine M2.mixL_nil ?_
        go_wp2
        refine ⟨?rel, ?measure⟩
        case rel =>
          have hst : stepS sz S (d, x.x) = S := by unfold stepS; rw [if_neg (by exact hm)]
          exact ⟨k + 1, rs, L, by omega, by go_num, HR.out.ov (Chg.of_ov ⟨e1, rfl⟩ []), by rw [HNX.out, hst]; exact HS.out, by rw [HNX.out, hst]; exact HA.out⟩
        case measure => (simp [intOf]; try omega)
    · obtain rfl : k = xs.length := by omega
      have hak : ops.take xs.length = ops := by rw [List.take_of_length_le (by omega)]
      rw [hak] at hS hA
      have HR := hid hR
      have HS := hid hS
      have HA := hid hA
      have HSL := hid hsl
      clear hR hS hA hsl
      go_wp2
      go_ret2
      refine ⟨b, mb, L, av, cv, rs, rfl, ?_, HR.out.bk, HS.out, HSL.out, fun r hr => (Own.slice' (sz := 2) (cells := Sm.cs) (fun _ => rfl) (HR.out.rows r hr)).2, HA.out, fun ad had => ?_⟩
      · exact Chg.ov O0.out HR.out.ch (by simpa using hmb)
      · subst had
        have := (Own.lt HR.out.all (g := ad.block) (by simp [Value.ownBlock])).1
        omega
end Go.Proofs.YtnihngljmmbenaaGreatDoor
