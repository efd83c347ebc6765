import Derived.Test.YtnihngljmmbenaaGreatDoorSI
import Derived.Test.YtnihngljmmbenaaGreatDoorHF
namespace Go.Proofs.YtnihngljmmbenaaGreatDoor
set_option linter.unusedVariables false
set_option linter.unusedSimpArgs false
open Go.RowKit Go.ChangeShapes Go.WideShapes Go.ChangeAt
attribute [local go_sem] over_drew chg_drew

theorem cfg_dec (cs : List Value) (h : okAll [some .i64, some .i64, some .i64, some .i64, some .i64, some .i64] cs) : ∃ x : Cf, True ∧ cs = [.int .i64 x.s, .int .i64 x.b, .int .i64 x.c, .int .i64 x.w, .int .i64 x.t, .int .i64 x.d] := by
  have hl := okAll_length _ _ h
  match cs, hl with
  | [v0, v1, v2, v3, v4, v5], _ =>
    obtain ⟨⟨a, rfl, _⟩, ⟨b, rfl, _⟩, ⟨c, rfl, _⟩, ⟨d, rfl, _⟩, ⟨e, rfl, _⟩, ⟨f, rfl, _⟩, _⟩ := h
    exact ⟨⟨a, b, c, d, e, f⟩, trivial, rfl⟩
section
variable {H : Type} {enc : TypeId × Value → H} {W : World} {spare : Nat → Bool} {held : Bool}
set_option maxRecDepth 100000 in
theorem open_cfg {v : Value} {y : DataW H} {ps : List MemPlace} {base : Nat} {r : Reach} (hv : Value.okWide Tryz.prog W r base 23 v) {b : Nat} (h : DataW.Trod enc Tryz.prog W b spare held 23 v y ps) : ∃ e : Cf, True ∧ v = e.v := by
  obtain ⟨cs, rfl, _⟩ := okWide_struct Tryz.underlying23 hv
  have h1 := open_flat (d := 6) (ks := [some .i64, some .i64, some .i64, some .i64, some .i64, some .i64]) (by kernel_rfl) h
  obtain ⟨e, he, hc⟩ := cfg_dec _ h1
  refine ⟨e, trivial, ?_⟩
  have : cs = #[.int .i64 e.s, .int .i64 e.b, .int .i64 e.c, .int .i64 e.w, .int .i64 e.t, .int .i64 e.d] := by
    apply Array.ext'
    rw [← show cs.toList = _ from hc]
  rw [this]
  rfl
end
set_option maxHeartbeats 2000000 in
theorem rright_any (x : Cf) (w : World) : Calls Tryz.prog 12 #[x.v] w (Ret w (.bool x.right)) := by
  obtain ⟨s, b, c, n, t, d⟩ := x
  unfold Cf.v Cf.right btw
  simp only
  cases h1 : decide (1 ≤ s)
  · skip
    go_enter Tryz.func12, Tryz.ntmps12
    go_wp2
    go_ret
    exact ⟨ovA, rfl⟩
  · cases h2 : decide (s ≤ 64)
    · skip
      go_enter Tryz.func12, Tryz.ntmps12
      go_wp2
      go_ret
      exact ⟨ovA, rfl⟩
    · cases h3 : decide (1 ≤ b)
      · skip
        go_enter Tryz.func12, Tryz.ntmps12
        go_wp2
        go_ret
        exact ⟨ovA, rfl⟩
      · cases h4 : decide (b ≤ 1073741824)
        · skip
          go_enter Tryz.func12, Tryz.ntmps12
          go_wp2
          go_ret
          exact ⟨ovA, rfl⟩
        · cases h5 : decide (1 ≤ c)
          · skip
            go_enter Tryz.func12, Tryz.ntmps12
            go_wp2
            go_ret
            exact ⟨ovA, rfl⟩
          · cases h6 : decide (c ≤ 24)
            · skip
              go_enter Tryz.func12, Tryz.ntmps12
              go_wp2
              go_ret
              exact ⟨ovA, rfl⟩
            · cases h7 : decide (1 ≤ n)
              · skip
                go_enter Tryz.func12, Tryz.ntmps12
                go_wp2
                go_ret
                exact ⟨ovA, rfl⟩
              · cases h8 : decide (n ≤ 1048576)
                · skip
                  go_enter Tryz.func12, Tryz.ntmps12
                  go_wp2
                  go_ret
                  exact ⟨ovA, rfl⟩
                · cases h9 : decide (1 ≤ t)
                  · skip
                    go_enter Tryz.func12, Tryz.ntmps12
                    go_wp2
                    go_ret
                    exact ⟨ovA, rfl⟩
                  · cases h10 : decide (t ≤ 1000)
                    · skip
                      go_enter Tryz.func12, Tryz.ntmps12
                      go_wp2
                      go_ret
                      exact ⟨ovA, rfl⟩
                    · cases h11 : decide (0 ≤ d)
                      · skip
                        go_enter Tryz.func12, Tryz.ntmps12
                        go_wp2
                        go_ret
                        exact ⟨ovA, rfl⟩
                      · cases h12 : decide (d ≤ 1048576)
                        · skip
                          go_enter Tryz.func12, Tryz.ntmps12
                          go_wp2
                          go_ret
                          exact ⟨ovA, rfl⟩
                        · skip
                          go_enter Tryz.func12, Tryz.ntmps12
                          go_wp2
                          go_ret
                          exact ⟨ovA, rfl⟩
set_option maxHeartbeats 1000000 in
theorem sNew_no (x : Cf) (hx : x.right = false) (ep : Nat) (w : World) : Calls Tryz.prog 9 #[x.v, .int .u32 (ep : Nat)] w (Ret w (.pointer none)) := by
  have hR := fun W => right_any x W
  rw [hx] at hR
  obtain ⟨s, b, c, n, t, d⟩ := x
  simp only [Cf.v] at *
  have HR := hid hR
  clear hR hx
  go_enter Tryz.func9, Tryz.ntmps9
  go_wp2_with (go_at_call 11; (with_reducible refine (HR.out _).mono ?_); rintro _ _ ⟨⟨e1, rfl⟩, rfl⟩)
  go_ret
  exact ⟨ovA, rfl⟩
set_option maxRecDepth 100000 in
set_option maxHeartbeats 2000000 in
theorem sendRights_any (x : Cf) (_hx : True) (ep : Nat) (_hep : ep < 4294967296) (w : World) (hT : TabW w) : Calls Tryz.prog 3 #[x.v, .int .u32 (ep : Nat)] w (Ret w (.bool true)) := by
  have HKn := hid (fun (W : World) (hW : ∃ e, W = over w e) => kn15_any W (TabW.ov hT hW))
  have hRi := fun W => right_any x W
  have hRr := fun W => rright_any x W
  obtain ⟨r, hr⟩ : ∃ r, x.right = r := ⟨_, rfl⟩
  rw [hr] at hRi hRr
  cases r with
  | false =>
    have hn := fun W => sNew_no x hr ep W
    obtain ⟨s, b, c, n, t, d⟩ := x
    simp only [Cf.v] at *
    have HRi := hid hRi
    have HRr := hid hRr
    have HN := hid hn
    clear hRi hRr hn hr hT
    go_enter Tryz.func3, Tryz.ntmps3
    go_wp2_with (go_at_call 9; (with_reducible refine (HN.out _).mono ?_); rintro _ _ ⟨⟨e1, rfl⟩, rfl⟩)
    refine wp_region_over (by kernel_rfl) (by kernel_rfl) ?_
    repeat (go_big_quiet_step ((first | (go_at_call 10; exact quiet_over (HKn.out _ ovA)) | (go_at_call 11; exact quiet_over (HRi.out _)) | (go_at_call 12; exact quiet_over (HRr.out _)))))
    refine wpQuiet_nil ?_
    intro _ hw'
    obtain ⟨nq, rfl⟩ := hw'
    go_wp2
    go_ret
    exact ⟨ovA, rfl⟩
  | true =>
    have ht := (right_iff x).1 hr
    have hn := fun W => sNew_yes x hr x.t.toNat (by omega) ep W
    obtain ⟨s, b, c, n, t, d⟩ := x
    simp only [Cf.v] at *
    have HRi := hid hRi
    have HRr := hid hRr
    have HN := hid hn
    clear hRi hRr hn hr hT ht
    go_enter Tryz.func3, Tryz.ntmps3
    go_wp2_with (go_at_call 9; (with_reducible refine (HN.out _).mono ?_); rintro _ W1 ⟨p, pw, pt, mt, mc, ms, Fw, rfl, hov, hs⟩; have O1 : Hid (∃ e, W1 = over w e) := hid (by obtain ⟨e, he⟩ := hov; rw [he]; exact ovA); have B1 : Hid (Blk W1 w.heap.size [.int .i64 s, .int .i64 b, .int .i64 c, .int .i64 n, .int .i64 t, .int .i64 d] 23) := hid (by obtain ⟨e, he⟩ := hov; rw [he]; exact (by exact blA)); clear hov hs)
    have HK1 := hid (fun (W : World) (hW : ∃ e, W = over W1 e) => HKn.out W (ov_tr O1.out hW))
    clear HKn
    have HKn := HK1
    clear HK1
    have c0 := B1.out.cell 0 rfl
    have c1 := B1.out.cell 1 rfl
    have c2 := B1.out.cell 2 rfl
    have c3 := B1.out.cell 3 rfl
    have c4 := B1.out.cell 4 rfl
    have c5 := B1.out.cell 5 rfl
    have cl := B1.out.lt
    refine wp_region_over (by kernel_rfl) (by kernel_rfl) ?_
    repeat (go_big_quiet_step ((first | (go_at_call 10; exact quiet_over (HKn.out _ ovA)) | (go_at_call 11; exact quiet_over (HRi.out _)) | (go_at_call 12; exact quiet_over (HRr.out _)))))
    refine wpQuiet_nil ?_
    intro _ hw'
    obtain ⟨nq, rfl⟩ := hw'
    go_wp2
    go_ret
    exact ⟨(ovB O1.out), rfl⟩
end Go.Proofs.YtnihngljmmbenaaGreatDoor
