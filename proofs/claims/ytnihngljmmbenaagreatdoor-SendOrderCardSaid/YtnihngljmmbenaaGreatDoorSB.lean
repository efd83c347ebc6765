import Derived.Test.YtnihngljmmbenaaGreatDoorChecked
import Derived.Test.YtnihngljmmbenaaGreatDoorSA
import Derived.Test.YtnihngljmmbenaaGreatDoorNI
import Derived.Test.YtnihngljmmbenaaGreatDoorMix2
import Derived.Test.YtnihngljmmbenaaGreatDoorRows
import Derived.Laws.LoneSync
namespace Go.Proofs.YtnihngljmmbenaaGreatDoor
set_option linter.unusedVariables false
set_option linter.unusedSimpArgs false
section
open Go.RowKit
attribute [local go_sem] over_drew chg_drew

abbrev e32 (k : Nat) : Value := .int .u32 (k : Nat)
structure TmAt (w : World) (p mb tk : Nat) (m : List (Nat × Value)) (L : List Tm) : Prop where
  blk : Blk w p [.int .u64 (tk : Nat), .map (some mb)] 170
  mp : MapK w mb e32 m
  tms : Tms m L
  ne : p ≠ mb
theorem TmAt.chg {w w' : World} {p mb tk : Nat} {m : List (Nat × Value)} {L : List Tm} {F : List Nat} (h : TmAt w p mb tk m L) (hc : Chg F w w') (h1 : p ∉ F) (h2 : mb ∉ F) : TmAt w' p mb tk m L := ⟨h.blk.chg hc h1, MapK.chg h.mp hc h2, h.tms, h.ne⟩
theorem TmAt.ov {w w' : World} {p mb tk : Nat} {m : List (Nat × Value)} {L : List Tm} (h : TmAt w p mb tk m L) (hW : ∃ e, w' = over w e) : TmAt w' p mb tk m L := h.chg (Chg.of_ov hW []) (by simp) (by simp)
def TmDid (w : World) (p mb tk : Nat) (L' : List Tm) (v : Value) (en : Ending) (w' : World) : Prop :=
  en = .returned v ∧ ∃ m', Chg [mb] w w' ∧ TmAt w' p mb tk m' L'
theorem zero_run (w : World) : (zeroValue 179).run Tryz.prog w = .ok (.agg #[.int .i64 0, .int .u64 0]) w := by kernel_rfl
set_option maxHeartbeats 1000000 in
theorem tNew_yes (n : Nat) (h1 : 1 ≤ n) (h2 : n ≤ 1000) (w : World) : Calls Tryz.prog 38 #[.int .i64 (n : Nat)] w fun en w' => en = .returned (.pointer (some ⟨w.heap.size + 1, 0, none⟩)) ∧ (∃ e, w' = over w e) ∧ TmAt w' (w.heap.size + 1) w.heap.size n [] [] := by
  have hmk : ∀ W : World, (Instr.makeMap 168 none).run Tryz.prog W = .ok (.map (some W.heap.size)) (W.alloc (.map #[] 0)) := fun W => rfl
  have d1 : decide ((n : Int) < 1) = false := decide_eq_false (by omega)
  have d2 : decide ((1000 : Int) < (n : Int)) = false := decide_eq_false (by omega)
  go_enter Tryz.func38, Tryz.ntmps38
  go_wp2_with fail
  go_ret
  refine ⟨rfl, ovA, ⟨Blk.new' (by simp), MapK.chg (MapK.new w e32) ((Chg.refl [] _).alloc _) (by simp), Tms.nil, by omega⟩⟩
set_option maxHeartbeats 1000000 in
theorem tAgain_any {w : World} {p mb tk : Nat} {m : List (Nat × Value)} {L : List Tm} (h : TmAt w p mb tk m L) (s now : Nat) (hn : now + tk < 18446744073709551616) :
    Calls Tryz.prog 58 #[.pointer (some ⟨p, 0, none⟩), .int .u32 (s : Nat), .int .u64 (now : Nat)] w (TmDid w p mb tk (tput L ⟨s, 0, now + tk⟩) (.tuple #[])) := by
  have H := hid h
  have c0 := h.blk.cell 0 rfl
  have c1 := h.blk.cell 1 rfl
  have hl := h.blk.lt
  obtain ⟨F, hF⟩ : ∃ F, F = [mb] := ⟨_, rfl⟩
  have hmF : mb ∈ F := by rw [hF]; simp
  have hpF : p ∉ F := by rw [hF]; simp; exact h.ne
  have HF := hid hF
  clear hF h
  go_enter Tryz.func58, Tryz.ntmps58
  refine M2.wp_region_mixZ (fun w' => ∃ m : Mut, w' = chg F _ m) [12] 13 (by kernel_rfl) (by kernel_rfl) (by decide) (chg_of (Chg.refl _ _)) ?_
  simp only [M2.td]
  with_reducible refine M2.mixL_quiet 12 (by kernel_rfl) ?_
  simp only [M2.td]
  repeat (go_big_quiet_step (fail))
  with_reducible refine wpQuiet_nil ?_
  with_reducible refine M2.mixL_eff (by decide) ?_
  go_wp2_with ((at_mapUpdate; refine wpList_kupdate rfl (.tmp 9) (.tmp 10) (.tmp 17) 168 rfl 24 179 (key_u32 (by kernel_rfl)) (by kernel_rfl) mb m s (.agg #[.int .i64 0, .int .u64 ((now : Int) + (tk : Int))]) rfl rfl rfl (MapK.chg (F := []) H.out.mp (by exact chA) (by simp)) ?_; intro mt hm6; rw [chg_drew] at hm6; have HM6 := hid hm6; clear hm6))
  refine M2.MixQ.mk (chg_of (by exact chA)) ?_
  with_reducible refine M2.mixL_nil ?_
  with_reducible refine M2.mixL_nil ?_
  rw [HF.out] at hpF
  have hc6 : Chg [mb] w (chg [mb] w mt) := chg_chg _ _ _
  refine bodyPost_end (results_none (by kernel_rfl) _ _ _) rfl ⟨rfl, _, hc6, ⟨H.out.blk.chg hc6 hpF, HM6.out, (by have k := H.out.tms.put ⟨s, 0, now + tk⟩; unfold encT at k; simp only [Int.natCast_add] at k; exact k), H.out.ne⟩⟩
theorem tlook {m : List (Nat × Value)} {L : List Tm} (h : Tms m L) (s : Nat) : ((if true then (.tuple #[(kGet m s).getD (.agg #[.int .i64 0, .int .u64 0]), .bool (kGet m s).isSome] : Value) else (kGet m s).getD (.agg #[.int .i64 0, .int .u64 0])) = match tget L s with | none => .tuple #[.agg #[.int .i64 0, .int .u64 0], .bool false] | some x => .tuple #[.agg #[.int .i64 (x.tr : Nat), .int .u64 (x.at_ : Nat)], .bool true]) := by
  rw [h.get s]
  cases tget L s <;> rfl
set_option maxHeartbeats 1000000 in
theorem tStop_any {w : World} {p mb tk : Nat} {m : List (Nat × Value)} {L : List Tm} (h : TmAt w p mb tk m L) (s : Nat) :
    Calls Tryz.prog 57 #[.pointer (some ⟨p, 0, none⟩), .int .u32 (s : Nat)] w (TmDid w p mb tk (tdel L s) (.bool (tget L s).isSome)) := by
  have H := hid h
  have c0 := h.blk.cell 0 rfl
  have c1 := h.blk.cell 1 rfl
  have hl := h.blk.lt
  have hv := tlook h.tms s
  have hne := h.ne
  cases hg : tget L s with
  | none =>
    rw [hg] at hv
    have HV := hid hv
    clear h hv hg
    go_enter Tryz.func57, Tryz.ntmps57
    go_wp2_with (first | (at_lookup; refine wpList_klookup rfl (.tmp 11) (.tmp 12) 168 true rfl 24 179 (key_u32 (by kernel_rfl)) (by kernel_rfl) (.agg #[.int .i64 0, .int .u64 0]) (zero_run _) mb m rfl (MapK.chg (F := []) H.out.mp (by exact chA) (by simp)) s rfl _ HV.out ?_) | (at_delete; refine wpList_kdelete rfl (.tmp 19) (.tmp 20) 168 24 rfl 179 (key_u32 (by kernel_rfl)) (by kernel_rfl) mb m s rfl rfl (MapK.chg (F := []) H.out.mp (by exact chA) (by simp)) ?_; intro mt hm6; have HM6 := hid hm6; clear hm6))
    go_ret
    refine ⟨rfl, _, (by exact chA), ⟨H.out.blk.chg (F := [mb]) (by exact chA) (by simp; exact hne), HM6.out, H.out.tms.del s, hne⟩⟩
  | some x =>
    rw [hg] at hv
    have HV := hid hv
    clear h hv hg
    go_enter Tryz.func57, Tryz.ntmps57
    go_wp2_with (first | (at_lookup; refine wpList_klookup rfl (.tmp 11) (.tmp 12) 168 true rfl 24 179 (key_u32 (by kernel_rfl)) (by kernel_rfl) (.agg #[.int .i64 0, .int .u64 0]) (zero_run _) mb m rfl (MapK.chg (F := []) H.out.mp (by exact chA) (by simp)) s rfl _ HV.out ?_) | (at_delete; refine wpList_kdelete rfl (.tmp 19) (.tmp 20) 168 24 rfl 179 (key_u32 (by kernel_rfl)) (by kernel_rfl) mb m s rfl rfl (MapK.chg (F := []) H.out.mp (by exact chA) (by simp)) ?_; intro mt hm6; have HM6 := hid hm6; clear hm6))
    go_ret
    refine ⟨rfl, _, (by exact chA), ⟨H.out.blk.chg (F := [mb]) (by exact chA) (by simp; exact hne), HM6.out, H.out.tms.del s, hne⟩⟩
set_option maxHeartbeats 1000000 in
theorem tStart_any {w : World} {p mb tk : Nat} {m : List (Nat × Value)} {L : List Tm} (h : TmAt w p mb tk m L) (s now : Nat) (hn : now + tk < 18446744073709551616) :
    Calls Tryz.prog 43 #[.pointer (some ⟨p, 0, none⟩), .int .u32 (s : Nat), .int .u64 (now : Nat)] w (TmDid w p mb tk (match tget L s with | none => tput L ⟨s, 0, now + tk⟩ | _ => L) (.bool (tget L s).isNone)) := by
  have H := hid h
  have HAg := hid (fun (W : World) (hW : ∃ e, W = over w e) => tAgain_any (h.ov hW) s now hn)
  have c0 := h.blk.cell 0 rfl
  have c1 := h.blk.cell 1 rfl
  have hl := h.blk.lt
  have hv := tlook h.tms s
  have hne := h.ne
  cases hg : tget L s with
  | none =>
    rw [hg] at hv
    have HV := hid hv
    clear h hv hg
    go_enter Tryz.func43, Tryz.ntmps43
    go_wp2_with (first | (at_lookup; refine wpList_klookup rfl (.tmp 13) (.tmp 14) 168 true rfl 24 179 (key_u32 (by kernel_rfl)) (by kernel_rfl) (.agg #[.int .i64 0, .int .u64 0]) (zero_run _) mb m rfl (MapK.chg (F := []) H.out.mp (by exact chA) (by simp)) s rfl _ HV.out ?_) | (go_at_call 58; (with_reducible refine (HAg.out _ ovA).mono ?_); rintro _ W5 ⟨rfl, m5, hc5, ht5⟩; have HC5 := hid hc5; have HT5 := hid ht5; clear hc5 ht5))
    go_ret
    exact ⟨rfl, m5, (Chg.refl [mb] w).trans (by exact Chg.trans (by exact chA) HC5.out), HT5.out⟩
  | some x =>
    rw [hg] at hv
    have HV := hid hv
    clear h hv hg
    go_enter Tryz.func43, Tryz.ntmps43
    go_wp2_with (first | (at_lookup; refine wpList_klookup rfl (.tmp 13) (.tmp 14) 168 true rfl 24 179 (key_u32 (by kernel_rfl)) (by kernel_rfl) (.agg #[.int .i64 0, .int .u64 0]) (zero_run _) mb m rfl (MapK.chg (F := []) H.out.mp (by exact chA) (by simp)) s rfl _ HV.out ?_))
    go_ret
    exact ⟨rfl, m, (by exact chA), H.out.ov ovA⟩
end
section
open Go.RowKit
attribute [local go_sem] over_drew chg_drew

theorem ovt {a b c : World} (h1 : ∃ e, b = over a e) (h2 : ∃ e, c = over b e) : ∃ e, c = over a e := by
  obtain ⟨e, rfl⟩ := h1
  obtain ⟨e2, rfl⟩ := h2
  exact ovA
theorem Tms.len {m : List (Nat × Value)} {L : List Tm} (h : Tms m L) : m.length ≤ L.length := by
  have := nodup_len (m.map (·.1)) (L.map (·.s)) h.nd (fun k hk => by
    obtain ⟨i, hi, rfl⟩ := List.getElem_of_mem hk
    rw [List.length_map] at hi
    obtain ⟨x, hx, _⟩ := h.nth hi
    obtain ⟨h1, h2⟩ := tget_s hx
    rw [List.getElem_map]
    exact List.mem_map.2 ⟨x, h2, h1⟩)
  simpa using this
theorem dueF_len (m : List (Nat × Value)) (L : List Tm) (now : Nat) (s : List Nat) : (dueF m L now s).length ≤ s.length := by
  unfold dueF
  have := List.length_filter_le (dueB L now) (s.map fun i => (m[i]!).1)
  simpa using this
theorem SlW.at_ {w : World} {a : Option Addr} {cap : Nat} {xs : List Nat} (h : SlW w a cap xs) {k : Nat} (hk : k < xs.length) :
    ∃ b off, a = some ⟨b, off, none⟩ ∧ b < w.heap.size ∧ w.cell? ⟨b, off + k, none⟩ = some (.int .u32 (xs[k] : Nat)) := by
  obtain ⟨b, off, rfl, hb, hcell⟩ := h.rec_ k xs[k] (List.getElem?_eq_getElem hk)
  have := hcell 0 _ rfl
  rw [Nat.mul_one] at this
  exact ⟨b, off, rfl, hb, this⟩
structure DueJ (w : World) (p mb tk : Nat) (L : List Tm) (now k : Nat) (m' : List (Nat × Value)) (v : Value) (wr : World) : Prop where
  tms : TmsD m' L now tk k
  mp : MapK wr mb e32 m'
  blk : Blk wr p [.int .u64 (tk : Nat), .map (some mb)] 170
  own : OwnW (w.heap.size + 1) wr v (tduo L now)
  chg : Chg [mb] w wr
structure DueI (w : World) (mb : Nat) (m : List (Nat × Value)) (L : List Tm) (now : Nat) (s : List Nat) (v : Value) (wr : World) : Prop where
  rng : RngAt wr mb w.heap.size m s
  own : OwnW (w.heap.size + 1) wr v (dueF m L now s)
  ov : ∃ e, wr = over w e
theorem DueI.nx {w wr W : World} {mb : Nat} {m : List (Nat × Value)} {L : List Tm} {now : Nat} {s s' : List Nat} {v : Value} (h : DueI w mb m L now s v wr) (hr : RngAt W mb w.heap.size m s') (hc : Chg [w.heap.size] wr W) (hd : dueF m L now s' = dueF m L now s) : DueI w mb m L now s' v W := by
  refine ⟨hr, ?_, Chg.ov h.ov hc (by simp)⟩
  rw [hd]
  exact Own.chg h.own hc (fun g hg hm => by have := (Own.lt h.own hg).1; simp at hm; omega)
theorem DueI.cg {w wr W : World} {mb : Nat} {m : List (Nat × Value)} {L : List Tm} {now : Nat} {s : List Nat} {v : Value} (h : DueI w mb m L now s v wr) (hW : ∃ e, W = over wr e) : DueI w mb m L now s v W := by
  refine ⟨h.rng.chg (Chg.of_ov hW []) (by simp) (by simp), ?_, ovt h.ov hW⟩
  obtain ⟨e, rfl⟩ := hW
  exact h.own.over e
theorem DueI.step {w wr W W' : World} {mb : Nat} {m : List (Nat × Value)} {L : List Tm} {now : Nat} {s : List Nat} {i : Nat} {A : List Nat} {v v' : Value} (hmb : mb < w.heap.size) (hr : RngAt wr mb w.heap.size m (s ++ [i])) (h1 : OwnW (w.heap.size + 1) wr v A) (ho : ∃ e, wr = over w e) (hW : ∃ e, W = over wr e) (hc : Chg v.ownBlock.toList W W') (ho' : OwnW (w.heap.size + 1) W' v' (dueF m L now (s ++ [i]))) : DueI w mb m L now (s ++ [i]) v' W' := by
  have hn : ∀ g ∈ v.ownBlock.toList, w.heap.size + 1 ≤ g := fun g hg => (Own.lt h1 (by simpa using hg)).1
  refine ⟨(hr.chg (Chg.of_ov hW []) (by simp) (by simp)).chg hc (fun hm => by have := hn _ hm; omega) (fun hm => by have := hn _ hm; omega), ho', Chg.ov (ovt ho hW) hc (fun g hg => by have := hn g hg; omega)⟩
set_option maxRecDepth 100000 in
set_option maxHeartbeats 4000000 in
theorem tDue_any {w : World} {p mb tk : Nat} {m : List (Nat × Value)} {L : List Tm} (h : TmAt w p mb tk m L) (now : Nat) (hn : now ≤ 1099511627776) (htk : tk ≤ 1000) (htr : ∀ x ∈ L, x.tr ≤ 1000000) (hL : L.length ≤ 1000) :
    Calls Tryz.prog 61 #[.pointer (some ⟨p, 0, none⟩), .int .u64 (now : Nat)] w (fun en w' => ∃ v m', en = .returned v ∧ Chg [mb] w w' ∧ TmAt w' p mb tk m' (L.map (tupd now tk)) ∧ OwnW w.heap.size w' v (tduo L now)) := by
  have H := hid h
  have c0 := h.blk.cell 0 rfl
  have c1 := h.blk.cell 1 rfl
  have hl := h.blk.lt
  have hml := h.mp.lt
  have hne := h.ne
  obtain ⟨ob, hrun, hr0⟩ := rng_start (P := Tryz.prog) (t := 168) (k := 24) (e := 179) (by kernel_rfl) (MapAt.k h.mp)
  have HR0 := hid hr0
  clear h hr0
  go_enter Tryz.func61, Tryz.ntmps61
  go_wp2
  have I0 : Hid (DueI w mb m L now [] (.slice none 0 0) (w.alloc ob)) := hid ⟨HR0.out, Own.nil _, ovA⟩
  clear HR0 hrun
  go_loopw [5] (fun v wr => ∃ s, DueI w mb m L now s v wr) (fun _ wr => rngLeft wr w.heap.size m.length)
  case atStart => exact ⟨[], I0.out⟩
  case round =>
    obtain ⟨s, hI⟩ := hrel
    have hR := hI.rng
    have hle := hR.left_eq m.length
    have hln := hR.len_le
    have hal := dueF_len m L now s
    have hmL := H.out.tms.len
    obtain ⟨av, cv, rfl, _⟩ := Own.slice wcs_len hI.own
    rcases rng_next' (P := Tryz.prog) hR with ⟨hall, hrun2⟩ | ⟨i, hi, hns, mt, hrun2, hR2, hen⟩
    · have HS := hid (And.intro hI (And.intro hR.2.1 (And.intro hR.2.2.1 hall)))
      have hso := due_sort H.out.tms now hR.2.1 hR.2.2.1 hall
      have HSrt := hid (fun (W : World) (hW : ∃ e, W = over wr e) => sort_own (DueI.cg hI hW).own (by omega))
      rw [hso] at HSrt
      have HSO := hid hso
      have hdl : (dueF m L now s).length = (tduo L now).length := by rw [← hso, srtN_len]
      rw [hdl] at HSrt ⊢
      clear hR hI hall hle hso
      go_wp2_with (go_at_call 85; (with_reducible refine (HSrt.out _ ovA).mono ?_); rintro _ W3 ⟨rfl, hc3, ho3⟩; have HC3 := hid hc3; have HO3 := hid ho3; clear hc3 ho3)
      have J0 : Hid (DueJ w p mb tk L now 0 m (.slice av (tduo L now).length cv) W3) := hid (by
        have h0 := HS.out.1
        have hn3 : ∀ g ∈ (Value.slice av (tduo L now).length cv).ownBlock.toList, w.heap.size + 1 ≤ g := fun g hg => (Own.lt HO3.out (by
          have h1 := HC3.out
          simpa using hg)).1
        have hc3 : Chg [] w W3 := Chg.of_ov (Chg.ov h0.ov (by simpa using HC3.out) (fun g hg => by have := hn3 g (by simpa using hg); omega)) []
        exact ⟨TmsD.zero H.out.tms now tk, MapK.chg H.out.mp hc3 (by simp), H.out.blk.chg hc3 (by simp), HO3.out, hc3.mono (by simp)⟩)
      go_loopw [33] (fun i wx => ∃ (k : Nat) (m' : List (Nat × Value)), k ≤ (tduo L now).length ∧ i = .int .i64 (k : Nat) ∧ DueJ w p mb tk L now k m' (.slice av (tduo L now).length cv) wx) (fun i _ => (tduo L now).length - (intOf i).toNat)
      case atStart => exact ⟨0, m, Nat.zero_le _, rfl, J0.out⟩
      case round =>
        obtain ⟨k, m', hk, rfl, hJ⟩ := hrel
        have HJ := hid hJ
        by_cases hlt : k < (tduo L now).length
        · obtain ⟨x, hgx, hxn, hxs, hkx, hst⟩ := TmsD.step H.out.tms.sort hJ.tms hlt
          obtain ⟨gb, go, rfl, hgb, hgc⟩ := SlW.at_ (Own.slice' wcs_len hJ.own).2 hlt
          obtain ⟨ss, hss⟩ : ∃ y, (tduo L now)[k] = y := ⟨_, rfl⟩
          rw [hss] at hgx hxs hkx hst hgc
          have HV : Hid ((if false then (.tuple #[(kGet m' ss).getD (.agg #[.int .i64 0, .int .u64 0]), .bool (kGet m' ss).isSome] : Value) else (kGet m' ss).getD (.agg #[.int .i64 0, .int .u64 0])) = .agg #[.int .i64 (x.tr : Nat), .int .u64 (x.at_ : Nat)]) := hid (by rw [hkx]; rfl)
          have hxt := htr x (tget_s hgx).2
          have d0 := hJ.blk.cell 0 rfl
          have d1 := hJ.blk.cell 1 rfl
          have dl := hJ.blk.lt
          have hdk : decide (k < (tduo L now).length) = true := decide_eq_true hlt
          have HST := hid hst
          have HXN := hid hxn
          obtain ⟨xs, xr, xa⟩ := x
          simp only at hxs hxt HV
          have hmr : min ((xr : Int) + 1) 4 = ((min (xr + 1) 4 : Nat) : Int) := by omega
          clear hJ hgx hkx hst hxn hss hxs
          go_wp2_with (at_lookup; refine wpList_klookup rfl (.tmp 40) (.tmp 41) 168 false rfl 24 179 (key_u32 (by kernel_rfl)) (by kernel_rfl) (.agg #[.int .i64 0, .int .u64 0]) (zero_run _) mb m' rfl (MapK.chg (F := []) HJ.out.mp (by exact chA) (by simp)) ss rfl _ HV.out ?_)
          refine gen_w ?_
          intro W4 hW4
          obtain ⟨q, hq⟩ : ∃ q, q = wr.heap.size := ⟨_, rfl⟩
          have hc4 : Chg [] wr W4 := by rw [hW4]; exact (Chg.refl [] wr).alloc _
          have B4 : Hid (Blk W4 q [.int .i64 ((xr : Int) + 1), .int .u64 (xa : Nat)] 179) := hid (by rw [hW4, hq]; exact Blk.new' rfl)
          have P4 := hid (HJ.out.blk.chg hc4 (by simp))
          have M4 := hid (MapK.chg HJ.out.mp hc4 (by simp))
          have hqm : mb < q := by have := HJ.out.mp.lt; omega
          have hqp : p < q := by omega
          have hqw : w.heap.size ≤ q := by have := HJ.out.chg.size; omega
          have HC4 := hid hc4
          have HQ := hid hq
          rw [← hq]
          have e0 := B4.out.cell 0 rfl
          have e1 := B4.out.cell 1 rfl
          have el := B4.out.lt
          have ef : ∀ j, W4.frozen? ⟨q, j, none⟩ = false := fun j => B4.out.free j
          have f0 := P4.out.cell 0 rfl
          have f1 := P4.out.cell 1 rfl
          have fl := P4.out.lt
          clear hW4 hq hc4 d0 d1 dl
          refine M2.wp_region_mix [11] 11 (by kernel_rfl) (by kernel_rfl) (by decide) ?_
          simp only [M2.td]
          with_reducible refine M2.mixL_quiet 11 (by kernel_rfl) ?_
          simp only [M2.td]
          repeat (go_big_quiet_step (fail))
          with_reducible refine wpQuiet_nil ?_
          with_reducible refine M2.mixL_nil ?_
          with_reducible refine M2.mixL_eff (by decide) ?_
          go_wp2_with ((fail))
          refine M2.MixQ.mk trivial ?_
          with_reducible refine M2.mixL_nil ?_
          have hw5 : IntKind.u64.wrap ((now : Int) + IntKind.u64.wrap ((tk : Int) * 2 ^ min (xr + 1) 4)) = ((now + tk * 2 ^ min (xr + 1) 4 : Nat) : Int) := by
            have h16 : 2 ^ min (xr + 1) 4 ≤ 16 := Nat.le_trans (Nat.pow_le_pow_right (by omega) (Nat.min_le_right _ _)) (by decide)
            have hm : tk * 2 ^ min (xr + 1) 4 ≤ 1000 * 16 := Nat.mul_le_mul htk h16
            have hc : ((tk : Int) * 2 ^ min (xr + 1) 4) = ((tk * 2 ^ min (xr + 1) 4 : Nat) : Int) := by rw [Int.natCast_mul, Int.natCast_pow]; rfl
            rw [hc]
            generalize tk * 2 ^ min (xr + 1) 4 = y at *
            rw [u64_in (n := ((y : Nat) : Int)) (by omega) (by omega), u64_in (by omega) (by omega)]
            omega
          rw [hw5]
          refine gen_w ?_
          intro W5 hW5
          have hc5 : Chg [q] W4 W5 := by rw [hW5]; exact (by exact chA)
          have B5 : Hid (Blk W5 q [.int .i64 ((xr : Int) + 1), .int .u64 ((now + tk * 2 ^ min (xr + 1) 4 : Nat) : Int)] 179) := hid (by rw [hW5]; have hs : Blk (W4.setCell ⟨q, 1, none⟩ (.int .u64 ((now + tk * 2 ^ min (xr + 1) 4 : Nat) : Int))) q [.int .i64 ((xr : Int) + 1), .int .u64 ((now + tk * 2 ^ min (xr + 1) 4 : Nat) : Int)] 179 := B4.out.set 1 _; exact (by exact bxA hs))
          have P5 := hid (P4.out.chg hc5 (by simp; omega))
          have M5 := hid (MapK.chg M4.out hc5 (by simp; omega))
          have HC5 := hid hc5
          have g0 := B5.out.cell 0 rfl
          have g1 := B5.out.cell 1 rfl
          have gl := B5.out.lt
          have p0 := P5.out.cell 0 rfl
          have p1 := P5.out.cell 1 rfl
          have pl := P5.out.lt
          obtain ⟨at2, hat2⟩ : ∃ y, now + tk * 2 ^ min (xr + 1) 4 = y := ⟨_, rfl⟩
          rw [hat2] at g1 ⊢
          have HAT := hid hat2
          obtain ⟨F, hF⟩ : ∃ F, F = [mb] := ⟨_, rfl⟩
          have hmF : mb ∈ F := by rw [hF]; simp
          have hpF : p ∉ F := by rw [hF]; simp; exact hne
          have hqF : q ∉ F := by rw [hF]; simp; omega
          have HF := hid hF
          clear hW5 hc5 e0 e1 el ef f0 f1 fl hw5 hat2 hF
          go_wp2
          refine M2.wp_region_mixZ (fun w' => ∃ m : Mut, w' = chg F _ m) [6] 7 (by kernel_rfl) (by kernel_rfl) (by decide) (chg_of (Chg.refl _ _)) ?_
          simp only [M2.td]
          with_reducible refine M2.mixL_quiet 6 (by kernel_rfl) ?_
          simp only [M2.td]
          repeat (go_big_quiet_step (fail))
          with_reducible refine wpQuiet_nil ?_
          with_reducible refine M2.mixL_eff (by decide) ?_
          go_wp2_with ((at_mapUpdate; refine wpList_kupdate rfl (.tmp 61) (.tmp 62) (.tmp 63) 168 rfl 24 179 (key_u32 (by kernel_rfl)) (by kernel_rfl) mb m' ss (.agg #[.int .i64 ((xr : Int) + 1), .int .u64 (at2 : Nat)]) rfl rfl rfl (MapK.chg (F := []) M5.out (by exact chA) (by simp)) ?_; intro mt hm6; rw [chg_drew] at hm6; have HM6 := hid hm6; clear hm6))
          refine M2.MixQ.mk (chg_of (by exact chA)) ?_
          with_reducible refine M2.mixL_nil ?_
          with_reducible refine M2.mixL_nil ?_
          have hC : Chg [mb] wr (chg [mb] W5 mt) := (Chg.mono (G := [mb]) (Chg.trans (HC4.out.mono (G := [q]) (by simp)) HC5.out) (fun i hi => .inr (by have := HQ.out; simp at hi; omega))).trans (chg_chg _ _ _)
          have hT : TmsD (kPut m' ss (.agg #[.int .i64 ((xr : Int) + 1), .int .u64 (at2 : Nat)])) L now tk (k + 1) := by
            have h9 := HST.out
            have h8 : encT (tupd now tk ⟨xs, xr, xa⟩) = .agg #[.int .i64 ((xr : Int) + 1), .int .u64 (at2 : Nat)] := by
              unfold tupd
              rw [if_pos HXN.out]
              unfold encT
              simp only [HAT.out]
              rfl
            rw [h8] at h9
            exact h9
          have HN := hid (DueJ.mk hT HM6.out (HJ.out.blk.chg hC (by simp; exact hne)) (Own.chg HJ.out.own hC (fun g hg hm => by have := (Own.lt HJ.out.own hg).1; simp at hm; omega)) (HJ.out.chg.trans hC))
          clear hC hT
          go_wp2
          go_roundw
          case rel => exact ⟨k + 1, _, by omega, by go_num, HN.out⟩
          case measure => (simp [intOf]; try omega)
        · obtain rfl : k = (tduo L now).length := by omega
          have hdk : decide ((tduo L now).length < (tduo L now).length) = false := decide_eq_false (by omega)
          go_wp2
          go_ret
          exact ⟨_, m', rfl, HJ.out.chg, ⟨HJ.out.blk, HJ.out.mp, TmsD.end_ H.out.tms.sort HJ.out.tms, hne⟩, HJ.out.own.mono (by omega)⟩
    · obtain ⟨x, hgx, hxe⟩ := H.out.tms.nth hi
      have hsn := dueF_snoc m L now s hi
      obtain ⟨W2, hW2⟩ : ∃ W2, W2 = chg [w.heap.size] wr mt := ⟨_, rfl⟩
      have hc2 : Chg [w.heap.size] wr W2 := by rw [hW2]; exact chg_chg _ _ _
      rw [← hW2] at hrun2 hR2 hen
      have HR2 := hid hR2
      have HC2 := hid hc2
      have HI := hid hI
      have HLE := hid hle
      rw [hxe] at hrun2 hen
      obtain ⟨kk, hkk⟩ : ∃ k, m[i].1 = k := ⟨_, rfl⟩
      rw [hkk] at hrun2 hen hgx hsn
      unfold encT at hrun2 hen
      have hdue : dueB L now kk = decide (x.at_ ≤ now) := by unfold dueB; rw [hgx]
      rw [hdue] at hsn
      clear hR hle hW2 hxe hkk hdue hR2 hc2 hI hns hi hgx
      by_cases hdd : x.at_ ≤ now
      · rw [decide_eq_true hdd, if_pos rfl] at hsn
        have hdi : decide ((x.at_ : Int) ≤ (now : Int)) = true := decide_eq_true (by omega)
        have HSN := hid hsn
        have HOW : Hid (OwnW (w.heap.size + 1) W2 (.slice av (dueF m L now s).length cv) (dueF m L now s)) := hid (Own.chg HI.out.own HC2.out (fun g hg hm => by have := (Own.lt HI.out.own hg).1; simp at hm; omega))
        have O2 : Hid (∃ e, W2 = over w e) := hid (Chg.ov HI.out.ov HC2.out (by simp))
        have hz2 : w.heap.size + 1 ≤ W2.heap.size := Nat.succ_le_of_lt HR2.out.lt
        obtain ⟨A, hA⟩ : ∃ A, dueF m L now s = A := ⟨_, rfl⟩
        rw [hA] at HOW hal HSN ⊢
        have hA1 : A.length ≤ 1000 := by omega
        clear hsn hA
        go_wp2_with (at_builtin; refine wpList_append' u32_elem wcs_len wcs_one rfl (.tmp 25) (.tmp 27) rfl (base := w.heap.size + 1) (v := .slice av A.length cv) (ys := A) (xs := [kk]) (by exact ownA HOW.out) rfl rfl (by simp only [World.size_alloc, size_over] at hz2 ⊢; omega) (by (repeat with_reducible refine Sl.drew ?_); exact Sl.one_new (y := kk) (by simp; try omega)) (by simp only [List.length_singleton]; unfold maxLen; omega) (by simp only [List.length_singleton]; omega) ?_; intro v' m6 ho2 _; rw [← HSN.out] at ho2; have HI2 := hid (DueI.step hml HR2.out HOW.out O2.out ovA (chg_chg _ _ m6) ho2); clear ho2)
        go_roundw
        case rel => exact ⟨s ++ [i], HI2.out⟩
        case measure =>
          have h2 := HI2.out.rng.len_le
          have h3 := HLE.out
          refine Nat.lt_of_le_of_lt (Nat.le_of_eq (HI2.out.rng.left_eq m.length)) ?_
          rw [List.length_append, List.length_singleton] at h2 ⊢
          omega
      · rw [decide_eq_false hdd, if_neg (by simp), List.append_nil] at hsn
        have hdi : decide ((x.at_ : Int) ≤ (now : Int)) = false := decide_eq_false (by omega)
        have HI2 := hid (DueI.nx HI.out HR2.out HC2.out hsn)
        clear hsn
        go_wp2
        go_roundw
        case rel => exact ⟨s ++ [i], HI2.out.cg ovA⟩
        case measure =>
          have h2 := HI2.out.rng.len_le
          have h3 := HLE.out
          refine Nat.lt_of_le_of_lt (Nat.le_of_eq ((HI2.out.cg ovA).rng.left_eq m.length)) ?_
          rw [List.length_append, List.length_singleton] at h2 ⊢
          omega
end
section
open Go.RowKit

set_option maxHeartbeats 400000 in
theorem before_any (a b : Pw) (w : World) : Calls Tryz.prog 52 #[a.v, b.v] w (Ret w (.bool (bef a b))) := by
  unfold Pw.v
  cases h : (a.c != b.c)
  · have hb := hid (show bef a b = decide (a.n < b.n) by simp at h; simp [bef, h])
    go_enter Tryz.func52, Tryz.ntmps52
    go_wp2
    go_ret
    exact ⟨ovA, ret_bool hb.out.symm⟩
  · have hb := hid (show bef a b = decide (a.c < b.c) by simp at h; simp [bef, h])
    go_enter Tryz.func52, Tryz.ntmps52
    go_wp2
    go_ret
    exact ⟨ovA, ret_bool hb.out.symm⟩

set_option maxHeartbeats 400000 in
theorem load64_any (p o : Nat) (n : Int) (w : World) (hc : w.cell? ⟨p, o, none⟩ = some (.int .i64 n)) : Calls Tryz.prog 82 #[.pointer (some ⟨p, o, none⟩)] w fun en w' => en = .returned (.int .i64 n) ∧ w = w' := by
  have hl := run_call_load (P := Tryz.prog) Tryz.func119 (by kernel_rfl) (by kernel_rfl) (by kernel_rfl) .i64 (by kernel_rfl) hc
  go_enter Tryz.func82, Tryz.ntmps82
  go_wp2
  go_ret
  exact ⟨rfl, rfl⟩

set_option maxHeartbeats 400000 in
theorem add64_any (p o : Nat) (n d : Int) (w : World) (hc : w.cell? ⟨p, o, none⟩ = some (.int .i64 n)) (hf : w.frozen? ⟨p, o, none⟩ = false) : Calls Tryz.prog 120 #[.pointer (some ⟨p, o, none⟩), .int .i64 d] w fun en w' => en = .returned (.int .i64 (wrap64 (n + d))) ∧ w' = w.setCell ⟨p, o, none⟩ (.int .i64 (wrap64 (n + d))) := by
  have hl := run_call_add (P := Tryz.prog) Tryz.func144 (by kernel_rfl) (by kernel_rfl) (by kernel_rfl) .i64 (by kernel_rfl) (y := d) (s := wrap64 (n + d)) hc hf (by simp [go_sem, wrap64, IntKind.wrap_i64])
  go_enter Tryz.func120, Tryz.ntmps120
  go_wp2
  go_ret
  exact ⟨rfl, rfl⟩

def WinAt (base : Nat) (w : World) (p : Nat) (most : Int) (xs : List Pc) (F : List Nat) : Prop :=
  ∃ v, Blk w p [.int .i64 most, .int .i64 (sumN xs), v] 167 ∧ Own base 155 8 Pc.cs w v xs ∧ base ≤ p ∧ v.ownBlock ≠ some p ∧ F = p :: v.ownBlock.toList

theorem piece_elem : ElemOf Tryz.prog 151 155 8 40 := elemOf (z := .agg #[.int .u32 0, .int .u32 0, .int .u32 0, .int .u32 0, .int .u32 0, .int .u32 0, .int .u32 0, .int .i64 0]) (by kernel_rfl) (by kernel_rfl) rfl (by decide)

theorem WinAt.chg {base : Nat} {w w' : World} {p : Nat} {most : Int} {xs : List Pc} {F G : List Nat} (h : WinAt base w p most xs F) (hc : Chg G w w') (hd : ∀ k ∈ F, k ∉ G) : WinAt base w' p most xs F := by
  obtain ⟨v, h1, h2, h3, h4, rfl⟩ := h
  exact ⟨v, h1.chg hc (hd p (by simp)), h2.chg hc (fun g hg => hd g (by simp [hg])), h3, h4, rfl⟩
theorem WinAt.lt {base : Nat} {w : World} {p : Nat} {most : Int} {xs : List Pc} {F : List Nat} (h : WinAt base w p most xs F) : ∀ k ∈ F, base ≤ k ∧ k < w.heap.size := by
  obtain ⟨v, h1, h2, h3, h4, rfl⟩ := h
  intro k hk
  rcases List.mem_cons.1 hk with rfl | hk
  · exact ⟨h3, h1.lt⟩
  · exact h2.lt (by simpa using hk)

def WDid (base : Nat) (w : World) (p : Nat) (most : Int) (F : List Nat) (v : Value) (xs' : List Pc) (en : Ending) (w' : World) : Prop :=
  en = .returned v ∧ ∃ m F', w' = chg F w m ∧ WinAt base w' p most xs' F' ∧ ∀ k ∈ F', k ∈ F ∨ w.heap.size ≤ k

set_option maxHeartbeats 400000 in
theorem winIn_any {base : Nat} {w : World} {p : Nat} {most : Int} {xs : List Pc} {F : List Nat} (h : WinAt base w p most xs F) : Calls Tryz.prog 60 #[.pointer (some ⟨p, 0, none⟩)] w (Ret w (.int .i64 (sumN xs))) := by
  obtain ⟨v, h1, _⟩ := h
  have hl := hid (load64_any p 1 _ w (h1.cell 1 rfl))
  clear h1
  go_enter Tryz.func60, Tryz.ntmps60
  go_wp2_with (go_at_call 82; refine hl.out.mono ?_; rintro _ _ ⟨rfl, rfl⟩)
  go_ret
  exact ⟨ovA, rfl⟩

set_option maxHeartbeats 400000 in
theorem winRoom_any {base : Nat} {w : World} {p : Nat} {most : Int} {xs : List Pc} {F : List Nat} (h : WinAt base w p most xs F) : Calls Tryz.prog 41 #[.pointer (some ⟨p, 0, none⟩)] w (Ret w (.bool (decide (sumN xs < most)))) := by
  obtain ⟨v, h1, _⟩ := h
  have hp := h1.lt
  have c0 := h1.cell 0 rfl
  have hl : Hid (∀ e, Calls Tryz.prog 82 #[.pointer (some ⟨p, 1, none⟩)] (over w e) fun en w' => en = .returned (.int .i64 (sumN xs)) ∧ ∃ m, w' = over w m) := fun e => by
    refine (load64_any p 1 (sumN xs) _ ?_).mono ?_
    · rw [cell_over _ _ _ _ hp]; exact h1.cell 1 rfl
    · rintro _ _ ⟨rfl, rfl⟩; exact ⟨rfl, e, rfl⟩
  clear h1
  go_enter Tryz.func41, Tryz.ntmps41
  go_wp2
  refine wp_region_over (by kernel_rfl) (by kernel_rfl) ?_
  repeat (go_big_quiet_step ((go_at_call 82; exact hl.out _)))
  refine wpQuiet_nil ?_
  intro _ hw'
  obtain ⟨nq, rfl⟩ := hw'
  go_wp2
  go_ret
  exact ⟨ovA, rfl⟩
end
section
open Go.RowKit

theorem addOk_no1 {most : Int} {xs : List Pc} {p : Pc} (h : decide (p.n < 1) = true) : addOk most xs p = false ∧ addW most xs p = xs := by
  have h := of_decide_eq_true h
  have : addOk most xs p = false := by unfold addOk; rw [decide_eq_false (by omega)]; rfl
  exact ⟨this, by simp [addW, this]⟩
theorem addOk_no2 {most : Int} {xs : List Pc} {p : Pc} (h : decide (65536 < p.n) = true) : addOk most xs p = false ∧ addW most xs p = xs := by
  have h := of_decide_eq_true h
  have : addOk most xs p = false := by unfold addOk; rw [decide_eq_false (p := p.n ≤ 65536) (by omega)]; simp
  exact ⟨this, by simp [addW, this]⟩
theorem addOk_no3 {most : Int} {xs : List Pc} {p : Pc} (h : decide (sumN xs < most) = false) : addOk most xs p = false ∧ addW most xs p = xs := by
  have : addOk most xs p = false := by unfold addOk; rw [h]; simp
  exact ⟨this, by simp [addW, this]⟩
theorem addOk_yes {most : Int} {xs : List Pc} {p : Pc} (h1 : decide (p.n < 1) = false) (h2 : decide (65536 < p.n) = false) (h3 : decide (sumN xs < most) = true) : addOk most xs p = true ∧ addW most xs p = xs ++ [p] := by
  have h1 := of_decide_eq_false h1
  have h2 := of_decide_eq_false h2
  have : addOk most xs p = true := by unfold addOk; rw [h3, decide_eq_true (p := 1 ≤ p.n) (by omega), decide_eq_true (p := p.n ≤ 65536) (by omega)]; rfl
  exact ⟨this, by simp [addW, this]⟩

theorem WDid.same {base : Nat} {w w' : World} {p : Nat} {most : Int} {F : List Nat} {v : Value} {xs : List Pc} (h : WinAt base w p most xs F) (ho : ∃ e, w' = over w e) : WDid base w p most F v xs (.returned v) w' := by
  obtain ⟨m, hm⟩ := chg_of (Chg.of_ov ho F)
  exact ⟨rfl, m, F, hm, h.chg (G := []) (Chg.of_ov ho []) (by simp), fun k hk => .inl hk⟩

theorem WDid.mk {base : Nat} {w w' : World} {p : Nat} {most : Int} {F F' : List Nat} {v : Value} {xs' : List Pc} (hc : Chg F w w') (hw : WinAt base w' p most xs' F') (hF : ∀ k ∈ F', k ∈ F ∨ w.heap.size ≤ k) : WDid base w p most F v xs' (.returned v) w' := by
  obtain ⟨m, hm⟩ := chg_of hc
  exact ⟨rfl, m, F', hm, hw, hF⟩

set_option maxRecDepth 100000 in
set_option maxHeartbeats 2000000 in
theorem winAdd_any {base : Nat} {w : World} {p : Nat} {most : Int} {xs : List Pc} {F : List Nat} (h : WinAt base w p most xs F) (hk : winOk most xs) (x : Pc) (hx : x.wf) (hb : base ≤ w.heap.size) :
    Calls Tryz.prog 83 #[.pointer (some ⟨p, 0, none⟩), x.v] w (WDid base w p most F (.bool (addOk most xs x)) (addW most xs x)) := by
  have HW := hid h
  have HR := hid (fun e => winRoom_any (h.chg (G := []) (Chg.of_ov (w' := w.alloc e) (ex_alloc (over_self _) _) []) (by simp)))
  unfold Pc.v
  cases g1 : decide (x.n < 1)
  rotate_left
  · have HN := hid (addOk_no1 (most := most) (xs := xs) g1)
    clear h
    go_enter Tryz.func83, Tryz.ntmps83
    go_wp2_with (go_at_call 41; (with_reducible refine (HR.out _).mono ?_); rintro _ _ ⟨⟨e1, rfl⟩, rfl⟩)
    go_ret
    rw [HN.out.1, HN.out.2]
    exact WDid.same HW.out ovA
  · cases g2 : decide (65536 < x.n)
    rotate_left
    · have HN := hid (addOk_no2 (most := most) (xs := xs) g2)
      clear h
      go_enter Tryz.func83, Tryz.ntmps83
      go_wp2_with (go_at_call 41; (with_reducible refine (HR.out _).mono ?_); rintro _ _ ⟨⟨e1, rfl⟩, rfl⟩)
      go_ret
      rw [HN.out.1, HN.out.2]
      exact WDid.same HW.out ovA
    · cases g3 : decide (sumN xs < most)
      · have HN := hid (addOk_no3 (most := most) (xs := xs) (p := x) g3)
        rw [g3] at HR
        clear h g3
        go_enter Tryz.func83, Tryz.ntmps83
        go_wp2_with (go_at_call 41; (with_reducible refine (HR.out _).mono ?_); rintro _ _ ⟨⟨e1, rfl⟩, rfl⟩)
        go_ret
        rw [HN.out.1, HN.out.2]
        exact WDid.same HW.out ovA
      · have HN := hid (addOk_yes g1 g2 g3)
        have hn1 : 1 ≤ x.n := by have := of_decide_eq_false g1; omega
        have hn2 : x.n ≤ 65536 := by have := of_decide_eq_false g2; omega
        have hs0 := (sumN_nonneg hk.1).1
        have hs1 := hk.2.1
        have hs2 := hk.2.2
        have hl := winOk_len hk
        have hs3 : sumN xs < 3000000 := by omega
        have hs4 : 0 ≤ sumN xs := by omega
        rw [g3] at HR
        obtain ⟨v, h1, h2, h3, h4, h5⟩ := h
        have hp := h1.lt
        have c1 := h1.cell 1 rfl
        have c2 := h1.cell 2 rfl
        have f1 := h1.free 1
        have f2 := h1.free 2
        have H1 := hid h1
        have H5 := hid h5
        have hpg : p ∉ v.ownBlock.toList := by simpa using fun h => h4 h
        have hq : w.heap.size ∉ v.ownBlock.toList := fun hm => by have := (Own.lt h2 (g := w.heap.size) (by simpa using hm)).2; omega
        have hq2 : v.ownBlock ≠ some w.heap.size := by simpa using hq
        clear h1 g3 h5
        go_enter Tryz.func83, Tryz.ntmps83
        go_wp2_with (go_at_call 41; (with_reducible refine (HR.out _).mono ?_); rintro _ _ ⟨⟨e1, rfl⟩, rfl⟩)
        refine M2.wp_region_mix [6, 7, 10] 7 (by kernel_rfl) (by kernel_rfl) (by decide) ?_
        simp only [M2.td]
        with_reducible refine M2.mixL_quiet 6 (by kernel_rfl) ?_
        simp only [M2.td]
        repeat (go_big_quiet_step (fail))
        with_reducible refine wpQuiet_nil ?_
        with_reducible refine M2.mixL_eff (by decide) ?_
        go_wp2_with (fail)
        refine M2.MixQ.mk ovA ?_
        with_reducible refine M2.mixL_nil ?_
        with_reducible refine M2.mixL_eff (by decide) ?_
        go_wp2_with ((at_builtin; refine wpList_append' piece_elem Pc.cs_len Pc.cs_one rfl (.tmp 22) (.tmp 24) rfl (base := base) (v := v) (ys := xs) (xs := [x]) (by exact ownA h2) rfl rfl (by simp; omega) (by first | exact Sl.one_new (y := x) (by simp; try omega) | exact Sl.drew (Sl.one_new (y := x) (by simp; try omega))) (by simp only [List.length_append, List.length_singleton]; unfold maxLen; omega) (by simp only [List.length_append, List.length_singleton]; omega) ?_; intro v' m hown' hv'; obtain ⟨g, c', rfl⟩ := Own.form1 hown'))
        refine M2.MixQ.mk trivial ?_
        with_reducible refine M2.mixL_quiet 2 (by kernel_rfl) ?_
        simp only [M2.td]
        repeat (go_big_quiet_step (fail))
        with_reducible refine wpQuiet_nil ?_
        with_reducible refine M2.mixL_eff (by decide) ?_
        go_wp2_with (fail)
        refine M2.MixQ.mk trivial ?_
        with_reducible refine M2.mixL_nil ?_
        go_wp2_with fail
        refine M2.wp_region_mix [5] 5 (by kernel_rfl) (by kernel_rfl) (by decide) ?_
        simp only [M2.td]
        with_reducible refine M2.mixL_quiet 5 (by kernel_rfl) ?_
        simp only [M2.td]
        repeat (go_big_quiet_step (fail))
        with_reducible refine wpQuiet_nil ?_
        with_reducible refine M2.mixL_nil ?_
        with_reducible refine M2.mixL_eff (by decide) ?_
        go_wp2_with ((go_at_call 120; refine (add64_any p 1 (sumN xs) x.n _ (by go_simp) (by go_simp)).mono ?_; rintro _ _ ⟨rfl, rfl⟩))
        refine M2.MixQ.mk trivial ?_
        with_reducible refine M2.mixL_nil ?_
        go_wp2_with fail
        go_ret
        rw [HN.out.1, HN.out.2]
        have hF := H5.out
        subst hF
        have hsum : wrap64 (sumN xs + x.n) = sumN (xs ++ [x]) := by rw [IntWalk.wrap64_in _ ⟨by omega, by omega⟩, sumN_append]; simp [sumN]
        rw [hsum]
        have hg : v.ownBlock = some g ∨ w.heap.size ≤ g := by
          rcases hv' with hv' | ⟨g', hv', hle⟩
          · left; rw [← hv']; rfl
          · right; simp [Value.ownBlock] at hv'; simp at hle; omega
        have hgp : g ≠ p := by
          rintro rfl
          rcases hg with hg | hg
          · exact h4 hg
          · omega
        refine WDid.mk (by repeat (first | with_reducible exact Chg.refl _ _ | (focus (refine ChS.chg ?_; (repeat (first | with_reducible exact ChS.refl _ _ | with_reducible refine ChS.drewl ?_ | with_reducible refine ChS.drewr ?_ | with_reducible refine ChS.over ?_ _ | with_reducible refine chS_chgs ?_ _ | ((with_reducible refine chS_set ?_ _ ?_ _); rotate_left; (first | assumption | (focus (simp; done)) | (focus (simp; assumption)))) | with_reducible refine ChS.alloc ?_ _ | ((with_reducible refine ChS.lit ?_ ?_ _ _); rotate_left; (first | assumption | (focus (simp; done)) | (focus (simp; assumption)))) | with_reducible refine ChS.alloc ?_ _)); done)) | with_reducible refine Chg.alloc ?_ _ | with_reducible refine Chg.drew ?_ | with_reducible refine Chg.on ?_ _ | ((with_reducible refine Chg.setCell ?_ ?_ _); rotate_left; (first | (focus (left; assumption)) | (focus (left; simp; done)) | (focus (right; simp; done)) | (focus (right; simp; omega)) | (focus (left; simp; omega)))) | ((with_reducible refine Chg.in_ ?_ _ ?_); rotate_left; (first | assumption | (focus (intro i hi; left; simp at hi; subst hi; assumption)) | exact fun i hi => Or.inl hi | (focus (intro i hi; left; simp [hi]; done)) | (focus (intro i hi; left; simp at hi ⊢; simp [hi]; done)) | (focus (intro i hi; simp at hi ⊢; simp [hi]; done)) | (focus (intro i hi; simp at hi ⊢; omega)))))) ⟨.slice (some ⟨g, 0, none⟩) (xs.length + 1) c', ?_, (by exact ownA hown'), h3, by simp [Value.ownBlock]; exact hgp, rfl⟩ ?_
        · have hB := H1.out
          exact Blk.to (cs' := ([.int .i64 most, .int .i64 (sumN xs), v].set 2 (.slice (some ⟨g, 0, none⟩) (xs.length + 1) c')).set 1 (.int .i64 (sumN (xs ++ [x])))) (by exact bkA) rfl
        · intro k hk
          simp [Value.ownBlock] at hk ⊢
          rcases hk with rfl | rfl
          · exact .inl (.inl rfl)
          · rcases hg with hg | hg
            · exact .inl (.inr hg)
            · exact .inr hg
end
section
open Go.RowKit

def OutRes (p : Nat) (most n : Int) (v : Value) (w : World) (b : Bool) (en : Ending) (w' : World) : Prop :=
  en = .returned (.bool b) ∧ ∃ m, w' = chg [p] w m ∧ Blk w' p [.int .i64 most, .int .i64 n, v] 167
theorem OutRes.mk {p : Nat} {most n : Int} {v : Value} {w w' : World} {b : Bool} (hc : Chg [p] w w') (hB : Blk w' p [.int .i64 most, .int .i64 n, v] 167) : OutRes p most n v w b (.returned (.bool b)) w' := by
  obtain ⟨m, hm⟩ := chg_of hc
  exact ⟨rfl, m, hm, hB⟩

set_option maxRecDepth 100000 in
set_option maxHeartbeats 1000000 in
theorem out1_any (fi : Nat) (hE : ∀ args W, (callFunc fi args).run Tryz.prog W = .ok (.enter fi args) W) (caps : Array Value) (b : Bool) (x : Pc) (p isb wb : Nat) (most n : Int) (v : Value) (w : World)
    (HQ : Hid (∀ W', Ov w W' → Calls Tryz.prog fi (#[x.v] ++ caps) W' (Ret W' (.bool b))))
    (cI : w.cell? ⟨isb, 0, none⟩ = some (.func (.func fi) #[] caps)) (cW : w.cell? ⟨wb, 0, none⟩ = some (.pointer (some ⟨p, 0, none⟩))) (hI : isb < w.heap.size) (hW : wb < w.heap.size)
    (hB : Blk w p [.int .i64 most, .int .i64 n, v] 167) (h1 : 1 ≤ x.n) (h2 : x.n ≤ 65536) (h3 : b = true → x.n ≤ n) (h4 : n ≤ 3000000) :
    Calls Tryz.prog 127 #[x.v, .pointer (some ⟨isb, 0, none⟩), .pointer (some ⟨wb, 0, none⟩)] w (OutRes p most (if b then n - x.n else n) v w b) := by
  have H3 := hid h3
  clear h3
  have hp := hB.lt
  have c1 := hB.cell 1 rfl
  have f1 := hB.free 1
  have HB := hid hB
  clear hB
  unfold Pc.v at *
  cases b
  · go_enter Tryz.func127, Tryz.ntmps127
    go_wp2_with ((refine (HQ.out _ ovA).mono ?_); rintro _ _ ⟨⟨e1, rfl⟩, rfl⟩)
    go_ret
    have hB := HB.out
    exact OutRes.mk (by repeat (first | with_reducible exact Chg.refl _ _ | (focus (refine ChS.chg ?_; (repeat (first | with_reducible exact ChS.refl _ _ | with_reducible refine ChS.drewl ?_ | with_reducible refine ChS.drewr ?_ | with_reducible refine ChS.over ?_ _ | with_reducible refine chS_chgs ?_ _ | ((with_reducible refine chS_set ?_ _ ?_ _); rotate_left; (first | assumption | (focus (simp; done)) | (focus (simp; assumption)))) | with_reducible refine ChS.alloc ?_ _ | ((with_reducible refine ChS.lit ?_ ?_ _ _); rotate_left; (first | assumption | (focus (simp; done)) | (focus (simp; assumption)))) | with_reducible refine ChS.alloc ?_ _)); done)) | with_reducible refine Chg.alloc ?_ _ | with_reducible refine Chg.drew ?_ | with_reducible refine Chg.on ?_ _ | ((with_reducible refine Chg.setCell ?_ ?_ _); rotate_left; (first | (focus (left; assumption)) | (focus (left; simp; done)) | (focus (right; simp; done)) | (focus (right; simp; omega)) | (focus (left; simp; omega)))) | ((with_reducible refine Chg.in_ ?_ _ ?_); rotate_left; (first | assumption | (focus (intro i hi; left; simp at hi; subst hi; assumption)) | exact fun i hi => Or.inl hi | (focus (intro i hi; left; simp [hi]; done)) | (focus (intro i hi; left; simp at hi ⊢; simp [hi]; done)) | (focus (intro i hi; simp at hi ⊢; simp [hi]; done)) | (focus (intro i hi; simp at hi ⊢; omega)))))) (by exact bkA)
  · have hn := H3.out rfl
    go_enter Tryz.func127, Tryz.ntmps127
    go_wp2_with ((refine (HQ.out _ ovA).mono ?_); rintro _ _ ⟨⟨e1, rfl⟩, rfl⟩)
    refine M2.wp_region_mix [6] 6 (by kernel_rfl) (by kernel_rfl) (by decide) ?_
    simp only [M2.td]
    with_reducible refine M2.mixL_quiet 6 (by kernel_rfl) ?_
    simp only [M2.td]
    repeat (go_big_quiet_step (fail))
    with_reducible refine wpQuiet_nil ?_
    with_reducible refine M2.mixL_nil ?_
    with_reducible refine M2.mixL_eff (by decide) ?_
    go_wp2_with ((go_at_call 120; refine (add64_any p 1 n (-x.n) _ (by go_simp) (by go_simp)).mono ?_; rintro _ _ ⟨rfl, rfl⟩))
    refine M2.MixQ.mk trivial ?_
    with_reducible refine M2.mixL_nil ?_
    go_wp2_with fail
    go_ret
    have hB := HB.out
    have hs : wrap64 (n + -x.n) = n - x.n := by rw [IntWalk.wrap64_in _ ⟨by omega, by omega⟩]; omega
    rw [hs]
    exact OutRes.mk (by repeat (first | with_reducible exact Chg.refl _ _ | (focus (refine ChS.chg ?_; (repeat (first | with_reducible exact ChS.refl _ _ | with_reducible refine ChS.drewl ?_ | with_reducible refine ChS.drewr ?_ | with_reducible refine ChS.over ?_ _ | with_reducible refine chS_chgs ?_ _ | ((with_reducible refine chS_set ?_ _ ?_ _); rotate_left; (first | assumption | (focus (simp; done)) | (focus (simp; assumption)))) | with_reducible refine ChS.alloc ?_ _ | ((with_reducible refine ChS.lit ?_ ?_ _ _); rotate_left; (first | assumption | (focus (simp; done)) | (focus (simp; assumption)))) | with_reducible refine ChS.alloc ?_ _)); done)) | with_reducible refine Chg.alloc ?_ _ | with_reducible refine Chg.drew ?_ | with_reducible refine Chg.on ?_ _ | ((with_reducible refine Chg.setCell ?_ ?_ _); rotate_left; (first | (focus (left; assumption)) | (focus (left; simp; done)) | (focus (right; simp; done)) | (focus (right; simp; omega)) | (focus (left; simp; omega)))) | ((with_reducible refine Chg.in_ ?_ _ ?_); rotate_left; (first | assumption | (focus (intro i hi; left; simp at hi; subst hi; assumption)) | exact fun i hi => Or.inl hi | (focus (intro i hi; left; simp [hi]; done)) | (focus (intro i hi; left; simp at hi ⊢; simp [hi]; done)) | (focus (intro i hi; simp at hi ⊢; simp [hi]; done)) | (focus (intro i hi; simp at hi ⊢; omega)))))) (Blk.to (cs' := [.int .i64 most, .int .i64 n, v].set 1 (.int .i64 (n - x.n))) (by exact bkA) rfl)

set_option maxHeartbeats 400000 in
theorem ack1_any (s : Int) (to : Pw) (x : Pc) (sb tb : Nat) (w : World) (c0 : w.cell? ⟨sb, 0, none⟩ = some (.int .u32 s)) (c1 : w.cell? ⟨tb, 0, none⟩ = some (.int .u32 to.c)) (c2 : w.cell? ⟨tb, 1, none⟩ = some (.int .u32 to.b)) (c3 : w.cell? ⟨tb, 2, none⟩ = some (.int .u32 to.n))
    (hs : sb < w.heap.size) (ht : tb < w.heap.size) : Calls Tryz.prog 92 #[x.v, .pointer (some ⟨sb, 0, none⟩), .pointer (some ⟨tb, 0, none⟩)] w (Ret w (.bool (ackQ s to x))) := by
  unfold Pc.v
  cases h : (x.s == s)
  · have hq := hid (show ackQ s to x = false by simp at h; simp [ackQ, h])
    go_enter Tryz.func92, Tryz.ntmps92
    go_wp2
    go_ret
    exact ⟨ovA, ret_bool hq.out.symm⟩
  · have hq := hid (show ackQ s to x = !bef to x.t by simp at h; simp [ackQ, h])
    have HB := hid (fun W => before_any to x.t W)
    unfold Pw.v at HB
    go_enter Tryz.func92, Tryz.ntmps92
    go_wp2_with (go_at_call 52; (with_reducible refine (HB.out _).mono ?_); rintro _ _ ⟨⟨e1, rfl⟩, rfl⟩)
    go_ret
    exact ⟨ovA, ret_bool hq.out.symm⟩

set_option maxHeartbeats 400000 in
theorem drop1_any (s : Int) (x : Pc) (sb : Nat) (w : World) (c0 : w.cell? ⟨sb, 0, none⟩ = some (.int .u32 s)) (hs : sb < w.heap.size) : Calls Tryz.prog 128 #[x.v, .pointer (some ⟨sb, 0, none⟩)] w (Ret w (.bool (dropQ s x))) := by
  unfold Pc.v
  have hq := hid (show dropQ s x = (x.s == s) by simp [dropQ, BEq.beq])
  go_enter Tryz.func128, Tryz.ntmps128
  go_wp2
  go_ret
  exact ⟨ovA, ret_bool hq.out.symm⟩

def idxQ (q : Pc → Bool) (xs : List Pc) : Nat := (xs.takeWhile fun x => !q x).length
def cutPc (q : Pc → Bool) (n : Int) (xs : List Pc) (i : Nat) : Int := if h : i < xs.length then n - xs[i].n else n
def noneTo (q : Pc → Bool) (xs : List Pc) (k : Nat) : Prop := ∀ i (_ : i < k) (h : i < xs.length), q xs[i] = false
theorem noneTo_zero (q : Pc → Bool) (xs : List Pc) : noneTo q xs 0 := fun i h => absurd h (Nat.not_lt_zero i)
theorem noneTo_succ {q : Pc → Bool} {xs : List Pc} {k : Nat} (h : noneTo q xs k) (hk : k < xs.length) (h2 : q xs[k] = false) : noneTo q xs (k + 1) := by
  intro i hi hl
  rcases Nat.lt_or_ge i k with hlt | hge
  · exact h i hlt hl
  · obtain rfl : i = k := by omega
    exact h2
theorem noneTo_out {q : Pc → Bool} {xs : List Pc} {k : Nat} (h : noneTo q xs k) (hk : k ≤ xs.length) : outW q (xs.take k) = xs.take k := by
  unfold outW
  rw [List.filter_eq_self]
  intro x hx
  obtain ⟨i, hi, rfl⟩ := List.mem_iff_getElem.1 hx
  simp only [List.length_take] at hi
  rw [List.getElem_take, h i (by omega) (by omega)]; rfl

def IdxRes (q : Pc → Bool) (xs : List Pc) (p : Nat) (most n : Int) (v : Value) (w : World) (en : Ending) (w' : World) : Prop :=
  ∃ m, w' = chg [p] w m ∧ ((∃ (i : Nat) (h : i < xs.length), en = .returned (.int .i64 i) ∧ noneTo q xs i ∧ q xs[i] = true ∧ Blk w' p [.int .i64 most, .int .i64 (n - xs[i].n), v] 167) ∨
    (en = .returned (.int .i64 (-1)) ∧ noneTo q xs xs.length ∧ Blk w' p [.int .i64 most, .int .i64 n, v] 167))
end
end Go.Proofs.YtnihngljmmbenaaGreatDoor
