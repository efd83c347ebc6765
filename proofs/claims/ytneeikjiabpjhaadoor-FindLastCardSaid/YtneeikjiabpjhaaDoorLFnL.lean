/- Walks: FindLast. -/
import Derived.Test.YtneeikjiabpjhaaDoorLFnB
import Derived.Test.YtneeikjiabpjhaaDoorStE
namespace Go.Proofs.YtneeikjiabpjhaaDoor
set_option linter.unusedVariables false
set_option linter.unusedSimpArgs false
open Go.RowKit
attribute [local go_sem] over_drew chg_drew
attribute [local go_sem high] smp_neq smp_eql

set_option maxRecDepth 100000 in
set_option maxHeartbeats 4000000 in
theorem findLast_any (size : Int) (hz : -9223372036854775808 ≤ size ∧ size ≤ 9223372036854775807) (xs : List Opr) (hx : ∀ o ∈ xs, o.wf) (a : Option Addr) (cap : Nat) (t : Int) (ht : -9223372036854775808 ≤ t ∧ t ≤ 9223372036854775807) (w : World) (hT : TabW w) (hs : SlO w a cap xs) :
    Calls Tryd.prog 4 #[.int .i64 size, .slice a xs.length cap, .int .i64 t] w (Ret w (.bool true)) := by
  have HKn := hid (fun W (hW : TabW W) => kn25_any W hW)
  have HBo := hid (fun (hl : xs.length ≤ 60) W (h1 : TabW W) (h2 : SlO W a cap xs) => both_any size hz xs hx hl a cap W h1 h2)
  obtain ⟨sz, hsz0⟩ : ∃ sz, lsz size = sz := ⟨_, rfl⟩
  rw [hsz0] at HBo
  obtain ⟨ops, hops⟩ : ∃ ops, opsL xs = ops := ⟨_, rfl⟩
  rw [hops] at HBo
  clear hz hx hsz0 hops
  by_cases hl : 60 < xs.length
  · have hd : decide (60 < xs.length) = true := decide_eq_true hl
    go_enter Tryd.func4, Tryd.ntmps4
    go_wp2_with (go_at_call 6; (with_reducible refine (HKn.out _ (by exact tabA hT)).mono ?_); rintro _ _ ⟨⟨e1, rfl⟩, rfl⟩)
    go_ret
    exact ⟨(by (try unfold Ov); exact ovA), rfl⟩
  · have hd : decide (60 < xs.length) = false := decide_eq_false hl
    have HBo2 := hid (HBo.out (by omega))
    go_enter Tryd.func4, Tryd.ntmps4
    go_wp2_with (first
      | (go_at_call 6; (with_reducible refine (HKn.out _ (by exact tabA hT)).mono ?_); rintro _ _ ⟨⟨e1, rfl⟩, rfl⟩)
      | (go_at_call 7
         (with_reducible refine (HBo2.out _ (by exact tabA hT) (by exact slA hs)).mono ?_)
         rintro _ W1 ⟨b, mb, L, p, v, rr, R, al, cl, rs, rfl, ⟨e2, hW1⟩, hLd, hsl, hrows, _, _⟩
         have O1 : Hid (∃ e, W1 = over w e) := hid (by rw [hW1]; exact (by (try unfold Ov); exact ovA))
         have HL := hid hLd
         have HSL := hid hsl
         have HRW := hid hrows
         have HT1 := hid (TabW.ov hT O1.out)
         have hrl : rs.length ≤ 60 := by rw [hLd.len]; exact hLd.I.len
         clear hW1 hLd hsl hrows))
    go_loopw [10, 11, 12, 13] (fun i _ _ _ wr => ∃ k : Nat, k ≤ rs.length ∧ i = .int .i64 (k : Nat) ∧ Ov W1 wr) (fun i _ _ _ _ => rs.length - (intOf i).toNat)
    case atStart => exact ⟨0, Nat.zero_le _, rfl, (by (try unfold Ov); exact ovA)⟩
    case round =>
      obtain ⟨k, hk, rfl, ⟨e0, rfl⟩⟩ := hrel
      by_cases hlt : k < rs.length
      · obtain ⟨bl, off, rfl, hbl, x0, x1⟩ := SlR.at_ HSL.out hlt
        obtain ⟨id, s, hK⟩ := HL.out.k hlt
        have hrise := laid_rise HL.out hlt hK
        have hwf := srok_wf hK.ok
        have hnid := hK.nid hlt
        have hall := hK.all
        rw [hnid] at x0
        have HLa := hid (fun W (hW : ∃ e, W = over W1 e) => flast_any (bk_ov HL.out.bk hW) (TabW.ov HT1.out hW) id hK.get hrise (by have := hK.cl; omega) (by omega) t)
        have HBs := hid (fun W (hW : ∃ e, W = over W1 e) => between_any (bk_ov HL.out.bk hW) (TabW.ov HT1.out hW) id hK.get hrise (by have := hK.cl; omega) (by omega) (-9223372036854775808) t)
        rw [betw_last hrise (fun x hx => (hwf x hx).1.1) ht.1] at HBs
        obtain ⟨l, hll⟩ : ∃ l, s.all = l := ⟨_, rfl⟩
        rw [hll] at HLa HBs hall
        have hnl := behindN_le l t
        have hdl : decide (k < rs.length) = true := decide_eq_true hlt
        by_cases h0 : 0 < behindN l t
        · have e : lastS l t = (l[behindN l t - 1]'(by omega), true) := by unfold lastS; rw [dif_pos h0]
          rw [e] at HLa
          obtain ⟨n, hn⟩ : ∃ n, behindN l t = n + 1 := ⟨behindN l t - 1, by omega⟩
          simp only [hn, Nat.add_sub_cancel] at HLa HBs hnl
          obtain ⟨q, hq⟩ : ∃ q, l.take (n + 1) = q := ⟨_, rfl⟩
          have hql : q.length = n + 1 := by rw [← hq]; simp; omega
          have hnq : n < q.length := by omega
          have hqx : q[n]'hnq = l[n]'(by omega) := by subst hq; simp
          obtain ⟨x, hx⟩ : ∃ x, l[n]'(by omega) = x := ⟨_, rfl⟩
          rw [hx] at hqx
          simp only [hx] at HLa
          rw [hq] at HBs
          have HQX := hid hqx
          have HQL := hid hql
          have hnb : n ≤ 60 := by omega
          have hd1 : decide ((0 : Int) < (n : Int) + 1) = true := decide_eq_true (by omega)
          have hd2 : decide (0 < n + 1) = true := decide_eq_true (by omega)
          have hss : (x.t == x.t) = true := by simp
          have hvv : (((x.v : Nat) : Int) == ((x.v : Nat) : Int)) = true := by simp
          clear hK hrise hwf hnid hll h0 e hn hq hql hx hqx hnl x1
          go_wp2_with
            (first
              | (go_at_call 10; (with_reducible refine (HLa.out _ (by (try unfold Ov); exact ovA)).mono ?_); rintro _ _ ⟨⟨e4, rfl⟩, rfl⟩)
              | (go_at_call 8
                 (with_reducible refine (HBs.out _ (by (try unfold Ov); exact ovA)).mono ?_)
                 rintro _ W3 ⟨⟨e5, hW3⟩, v5, rfl, o5⟩
                 obtain ⟨a5, c5, rfl, s5⟩ := Own.slice Sm.cs_len o5
                 have O3 : Hid (∃ e, W3 = over W1 e) := hid (by rw [hW3]; exact (by (try unfold Ov); exact ovA))
                 have B3 : Hid (Blk W3 (W1.heap.size + e0.heap.size + e4.heap.size) [.int .i64 x.t, .int .u64 (x.v : Nat)] 39) := hid (by rw [hW3]; exact Blk.on (Blk.new' (by simp)) _)
                 have b30 := B3.out.cell 0 rfl
                 have b31 := B3.out.cell 1 rfl
                 have b3l := B3.out.lt
                 (have hl5 := HQL.out; obtain ⟨ab, ao, rfl, hab, q0, q1⟩ := SlM.at_ s5 hnq; rw [HQX.out] at q0 q1; rw [hl5]; clear hl5)
                 clear o5 s5 hW3))
          refine wp_region_over (by kernel_rfl) (by kernel_rfl) ?_
          repeat (go_big_quiet_step ((fail)))
          refine wpQuiet_nil ?_
          intro _ hw'
          obtain ⟨nq, rfl⟩ := hw'
          go_wp2
          go_roundw
          case rel => exact ⟨k + 1, by omega, by go_num, (by (try unfold Ov); exact ovB O3.out)⟩
          case measure => (simp [intOf]; try omega)
        · have e : lastS l t = (⟨0, 0⟩, false) := by unfold lastS; rw [dif_neg h0]
          rw [e] at HLa
          have hn : behindN l t = 0 := by omega
          rw [hn, List.take_zero] at HBs
          clear hK hrise hwf hnid hll h0 e hn hnl x1
          go_wp2_with
            (first
              | (go_at_call 10; (with_reducible refine (HLa.out _ (by (try unfold Ov); exact ovA)).mono ?_); rintro _ _ ⟨⟨e4, rfl⟩, rfl⟩)
              | (go_at_call 8
                 (with_reducible refine (HBs.out _ (by (try unfold Ov); exact ovA)).mono ?_)
                 rintro _ W3 ⟨⟨e5, hW3⟩, v5, rfl, o5⟩
                 obtain ⟨a5, c5, rfl, s5⟩ := Own.slice Sm.cs_len o5
                 have O3 : Hid (∃ e, W3 = over W1 e) := hid (by rw [hW3]; exact (by (try unfold Ov); exact ovA))
                 have B3 : Hid (Blk W3 (W1.heap.size + e0.heap.size + e4.heap.size) [.int .i64 0, .int .u64 0] 39) := hid (by rw [hW3]; exact Blk.on (Blk.new' (by simp)) _)
                 have b30 := B3.out.cell 0 rfl
                 have b31 := B3.out.cell 1 rfl
                 have b3l := B3.out.lt
                 skip
                 clear o5 s5 hW3))
          refine wp_region_over (by kernel_rfl) (by kernel_rfl) ?_
          repeat (go_big_quiet_step ((fail)))
          refine wpQuiet_nil ?_
          intro _ hw'
          obtain ⟨nq, rfl⟩ := hw'
          go_wp2
          go_roundw
          case rel => exact ⟨k + 1, by omega, by go_num, (by (try unfold Ov); exact ovB O3.out)⟩
          case measure => (simp [intOf]; try omega)
      · obtain rfl : k = rs.length := by omega
        go_wp2
        go_ret
        exact ⟨(by (try unfold Ov); exact ovB O1.out), rfl⟩
end Go.Proofs.YtneeikjiabpjhaaDoor
