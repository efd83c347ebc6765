import Derived.Test.YtnffcckhdedhpaaDoorPD
import Derived.Test.YtnffcckhdedhpaaDoorRjn
namespace Go.Proofs.YtnffcckhdedhpaaDoor
set_option linter.unusedVariables false
set_option linter.unusedSimpArgs false
open Go.RowKit
attribute [local go_sem] over_drew chg_drew

set_option maxRecDepth 100000 in
set_option maxHeartbeats 4000000 in
theorem digestRoots_any (x : List Lf) (wx : ∀ z ∈ x, z.wf) (a1 : Option Addr) (c1 : Nat) (y : Lf) (wy : y.wf) (k : Int) (hk : 0 ≤ k ∧ k ≤ 255) (w : World) (hT : TabW w) (s1 : SlL w a1 c1 x) :
    Calls Tryd.prog 3 #[.slice a1 x.length c1, y.v, .int .u8 k] w (Ret w (.bool true)) := by
  have HKn := hid (fun W (hW : TabW W) => kn26_any W hW)
  obtain ⟨kn, rfl⟩ : ∃ n : Nat, k = n := ⟨k.toNat, by omega⟩
  have hkn : kn ≤ 255 := by omega
  obtain ⟨z, hz⟩ : ∃ z : Lf, z = { y with m := y.m ^^^ 2 ^ (kn % 64) } := ⟨_, rfl⟩
  have wz : z.wf := by rw [hz]; exact ⟨wy.1, wy.2.1, wy.2.2.1, Nat.xor_lt_two_pow (n := 64) wy.2.2.2 (Nat.pow_lt_pow_right (by omega) (by omega))⟩
  have hne : rootS (x ++ [y]) ≠ rootS (x ++ [z]) := by rw [hz]; exact root_bit x y _ (Nat.mod_lt _ (by omega))
  have hjo := root_join x y
  have HR1 := hid (fun (hl : x.length ≤ 12) A C W (h : SlL W A C (x ++ [y])) => root_any (x ++ [y]) (by simp; omega) (by intro u hu; rcases List.mem_append.1 hu with h | h; exact wx u h; rw [List.mem_singleton.1 h]; exact wy) A C W h)
  have HR2 := hid (fun (hl : x.length ≤ 12) A C W (h : SlL W A C (x ++ [z])) => root_any (x ++ [z]) (by simp; omega) (by intro u hu; rcases List.mem_append.1 hu with h | h; exact wx u h; rw [List.mem_singleton.1 h]; exact wz) A C W h)
  have HR3 := hid (fun (hl : x.length ≤ 12) W (h : ∃ e, W = over w e) => root_any x (by omega) wx a1 c1 W (Sl.ov s1 h))
  have HR4 : Hid (∀ A C W, SlL W A C [y] → Calls Tryd.prog 7 #[.slice A 1 C] W (Ret W (.int .u64 (rootS [y] : Nat)))) := hid (fun A C W (h : SlL W A C [y]) => root_any [y] (by simp) (by intro u hu; rw [List.mem_singleton.1 hu]; exact wy) A C W h)
  have HJ : Hid (∀ W, Calls Tryd.prog 8 #[.int .u64 (rootS x : Nat), .int .u64 (rootS [y] : Nat), .int .i64 160] W (Ret W (.int .u64 ((rootS x * 1000000007 ^ 160 + rootS [y]) % 2305843009213693951 : Nat)))) := hid (fun W => rjoin_any (rootS x) (rootS [y]) 160 (by have := rootS_lt x; omega) (by have := rootS_lt [y]; omega) (by omega) W)
  rw [← hjo] at HJ
  have hxl : (x ++ [y]).length = x.length + 1 := by simp
  have hxz : (x ++ [z]).length = x.length + 1 := by simp
  simp only [hxl] at HR1
  simp only [hxz] at HR2
  obtain ⟨R1, hR1⟩ : ∃ r, rootS (x ++ [y]) = r := ⟨_, rfl⟩
  obtain ⟨R2, hR2⟩ : ∃ r, rootS (x ++ [z]) = r := ⟨_, rfl⟩
  obtain ⟨R3, hR3⟩ : ∃ r, rootS x = r := ⟨_, rfl⟩
  obtain ⟨R4, hR4⟩ : ∃ r, rootS [y] = r := ⟨_, rfl⟩
  rw [hR1, hR2] at hne
  rw [hR1] at HJ
  rw [hR3, hR4] at HJ
  simp only [hR1] at HR1
  simp only [hR2] at HR2
  simp only [hR3] at HR3
  simp only [hR4] at HR4
  obtain ⟨y1, y2, y3, y4⟩ := y
  obtain ⟨z1, z2, z3, z4⟩ := z
  simp only [Lf.mk.injEq] at hz
  obtain ⟨rfl, rfl, rfl, hz4⟩ := hz
  have hy4 : y4 < 18446744073709551616 := wy.2.2.2
  have HS1 := hid s1
  clear hjo hR1 hR2 hR3 hR4 hxl hxz wx wy wz s1
  simp only [Lf.v]
  by_cases h1 : 12 < x.length
  · have hd : decide (12 < x.length) = true := decide_eq_true h1
    have hdi : decide ((12 : Int) < (x.length : Int)) = true := decide_eq_true (by omega)
    go_enter Tryd.func3, Tryd.ntmps3
    go_wp2_with (go_at_call 6; (with_reducible refine (HKn.out _ (by exact tabA hT)).mono ?_); rintro _ _ ⟨⟨e1, rfl⟩, rfl⟩)
    go_ret
    exact ⟨ovA, rfl⟩
  have hd : decide (12 < x.length) = false := decide_eq_false h1
  have hdi : decide ((12 : Int) < (x.length : Int)) = false := decide_eq_false (by omega)
  have K1 := hid (HR1.out (by omega))
  have K2 := hid (HR2.out (by omega))
  have K3 := hid (HR3.out (by omega))
  clear HR1 HR2 HR3
  have hb1 : ((R1 : Int) == (R2 : Int)) = false := beq_eq_false_iff_ne.2 (by omega)
  have hb2 : (R1 == R2) = false := by simpa using hne
  have hb3 : ((R1 : Int) != (R2 : Int)) = true := bne_iff_ne.2 (by omega)
  have hsh : (kn : Int).tmod 64 = ((kn % 64 : Nat) : Int) := by rw [Int.tmod_eq_emod_of_nonneg (by omega)]; omega
  have hsh2 : (kn : Int) % 64 = ((kn % 64 : Nat) : Int) := by omega
  have hk64 : kn % 64 < 64 := Nat.mod_lt _ (by omega)
  obtain ⟨q, hq⟩ : ∃ q, kn % 64 = q := ⟨_, rfl⟩
  rw [hq] at hsh hsh2 hk64 hz4
  have hp2 : (2 : Nat) ^ q < 18446744073709551616 := Nat.lt_of_lt_of_le (Nat.pow_lt_pow_right (a := 2) (by decide) hk64) (by decide)
  have hx64 := xor64 y4 (2 ^ q) hy4 hp2
  rw [← hz4] at hx64
  obtain ⟨T2, hT2⟩ : ∃ T : Nat, 2 ^ q = T := ⟨_, rfl⟩
  rw [hT2] at hp2 hx64
  have hI2 : ((2 : Int) ^ q) = (T2 : Int) := by rw [← hT2]; simp
  have HBX : Hid (bits .xor .u64 (y4 : Int) (IntKind.u64.wrap (2 ^ q)) = (z4 : Int)) := hid (by
    rw [hI2, show IntKind.u64.wrap (T2 : Int) = (T2 : Int) by rw [IntKind.wrap_u64]; omega]; exact hx64)
  clear hI2 hT2 hx64 hz4
  have HNE := hid hne
  clear hq hne
  go_enter Tryd.func3, Tryd.ntmps3
  go_wp2_with (first
    | (go_at_call 6; (with_reducible refine (HKn.out _ (by exact tabA hT)).mono ?_); rintro _ _ ⟨⟨e1, rfl⟩, rfl⟩)
    | (at_builtin
       refine gen_w ?_
       intro W1 hW1
       have O1 : Hid (∃ e, W1 = over w e) := hid (by rw [hW1]; exact ovA)
       have P1 : Hid (Blk W1 w.heap.size [.int .u32 (z1 : Nat), .int .u32 (z2 : Nat), .int .u32 (z3 : Nat), .int .u64 (y4 : Nat)] 26) := hid (by rw [hW1]; exact (by exact blA))
       have l1 := P1.out.lt
       refine wpList_append' leaf_elem Lf.cs_len Lf.cs_one rfl (.tmp 19) (.tmp 20) rfl (base := w.heap.size + 1) (v := .slice none 0 0) (ys := []) (xs := x) (Own.nil _) rfl rfl (by omega) (Sl.ov HS1.out O1.out) (by simp only [List.length_nil]; unfold maxLen; omega) (by simp only [List.length_nil]; omega) ?_
       intro v2 m2 ho2 _
       refine gen_w ?_
       intro W2 hW2
       have C2 : Chg [] W1 W2 := by rw [hW2]; exact chg_chg _ _ _
       rw [← hW2, List.nil_append] at ho2
       have O2 : Hid (∃ e, W2 = over w e) := hid (Chg.ov O1.out C2 (by simp))
       have P2 : Hid (Blk W2 w.heap.size [.int .u32 (z1 : Nat), .int .u32 (z2 : Nat), .int .u32 (z3 : Nat), .int .u64 (y4 : Nat)] 26) := hid (Blk.chg P1.out C2 (by simp))
       obtain ⟨a2, c2, rfl, _⟩ := Own.slice Lf.cs_len ho2
       have H2 := hid ho2
       have l2 := P2.out.lt
       have p20 := P2.out.cell 0 rfl
       have p21 := P2.out.cell 1 rfl
       have p22 := P2.out.cell 2 rfl
       have p23 := P2.out.cell 3 rfl
       clear ho2 hW1 hW2 C2 P1 O1 l1)
    | (at_builtin
       refine gen_w ?_
       intro W3 hW3
       have O3 : Hid (∃ e, W3 = over W2 e) := hid (by rw [hW3]; exact ovA)
       have S3 : Hid (SlL W3 (some ⟨W2.heap.size, 0, none⟩) 1 [⟨z1, z2, z3, y4⟩]) := hid (by rw [hW3]; exact (by (repeat with_reducible refine Sl.drew ?_); exact Sl.one_new (y := (⟨z1, z2, z3, y4⟩ : Lf)) (by simp; try omega)))
       have H3 : Hid (OwnLf (w.heap.size + 1) W3 (.slice a2 x.length c2) x) := hid (by obtain ⟨e, he⟩ := O3.out; rw [he]; exact H2.out.over e)
       have hz3 : W2.heap.size ≤ W3.heap.size := by obtain ⟨e, he⟩ := O3.out; rw [he]; simp
       refine wpList_append' leaf_elem Lf.cs_len Lf.cs_one rfl (.tmp 22) (.tmp 24) rfl (base := w.heap.size + 1) (v := .slice a2 x.length c2) (ys := x) (xs := [⟨z1, z2, z3, y4⟩]) H3.out rfl rfl (by omega) S3.out (by simp only [List.length_singleton]; unfold maxLen; omega) (by simp only [List.length_singleton]; omega) ?_
       intro v4 m4 ho4 _
       refine gen_w ?_
       intro W4 hW4
       have C4 : Chg (Value.slice a2 x.length c2).ownBlock.toList W3 W4 := by rw [hW4]; exact chg_chg _ _ _
       rw [← hW4] at ho4
       have hown : ∀ g ∈ (Value.slice a2 x.length c2).ownBlock.toList, w.heap.size + 1 ≤ g := fun g hg => (Own.lt H3.out (by simpa using hg)).1
       have O4 : Hid (∃ e, W4 = over w e) := hid (Chg.ov (ov_tr O2.out O3.out) C4 (fun g hg => by have := hown g hg; omega))
       have P4 : Hid (Blk W4 w.heap.size [.int .u32 (z1 : Nat), .int .u32 (z2 : Nat), .int .u32 (z3 : Nat), .int .u64 (y4 : Nat)] 26) := hid (Blk.chg (by obtain ⟨e, he⟩ := O3.out; rw [he]; exact Blk.on P2.out e) C4 (fun hm => by have := hown _ hm; omega))
       obtain ⟨a4, c4, rfl, _⟩ := Own.slice Lf.cs_len ho4
       rw [List.length_append, List.length_singleton] at ho4 ⊢
       have H4 := hid ho4
       have l4 := P4.out.lt
       have p40 := P4.out.cell 0 rfl
       have p41 := P4.out.cell 1 rfl
       have p42 := P4.out.cell 2 rfl
       have p43 := P4.out.cell 3 rfl
       clear ho4 hW3 hW4 C4 P2 H2 H3 S3 O3 O2 hown l2 p20 p21 p22 p23 hz3)
    | (at_builtin
       refine gen_w ?_
       intro W5 hW5
       rw [HBX.out] at hW5
       have O5 : Hid (∃ e, W5 = over W4 e) := hid (by rw [hW5]; exact ovA)
       have Z5 : Hid (Blk W5 W4.heap.size [.int .u32 (z1 : Nat), .int .u32 (z2 : Nat), .int .u32 (z3 : Nat), .int .u64 (z4 : Nat)] 26) := hid (by rw [hW5]; exact (by exact blA))
       have P5 : Hid (Blk W5 w.heap.size [.int .u32 (z1 : Nat), .int .u32 (z2 : Nat), .int .u32 (z3 : Nat), .int .u64 (y4 : Nat)] 26) := hid (by obtain ⟨e, he⟩ := O5.out; rw [he]; exact Blk.on P4.out e)
       have l5 := Z5.out.lt
       refine wpList_append' leaf_elem Lf.cs_len Lf.cs_one rfl (.tmp 35) (.tmp 36) rfl (base := W4.heap.size + 1) (v := .slice none 0 0) (ys := []) (xs := x) (Own.nil _) rfl rfl (by omega) (Sl.ov HS1.out (ov_tr O4.out O5.out)) (by simp only [List.length_nil]; unfold maxLen; omega) (by simp only [List.length_nil]; omega) ?_
       intro v6 m6 ho6 _
       refine gen_w ?_
       intro W6 hW6
       have C6 : Chg [] W5 W6 := by rw [hW6]; exact chg_chg _ _ _
       rw [← hW6, List.nil_append] at ho6
       have O6 : Hid (∃ e, W6 = over W4 e) := hid (Chg.ov O5.out C6 (by simp))
       have P6 : Hid (Blk W6 w.heap.size [.int .u32 (z1 : Nat), .int .u32 (z2 : Nat), .int .u32 (z3 : Nat), .int .u64 (y4 : Nat)] 26) := hid (Blk.chg P5.out C6 (by simp))
       have Z6 : Hid (Blk W6 W4.heap.size [.int .u32 (z1 : Nat), .int .u32 (z2 : Nat), .int .u32 (z3 : Nat), .int .u64 (z4 : Nat)] 26) := hid (Blk.chg Z5.out C6 (by simp))
       obtain ⟨a6, c6, rfl, _⟩ := Own.slice Lf.cs_len ho6
       have H6 := hid ho6
       have l6 := Z6.out.lt
       have z60 := Z6.out.cell 0 rfl
       have z61 := Z6.out.cell 1 rfl
       have z62 := Z6.out.cell 2 rfl
       have z63 := Z6.out.cell 3 rfl
       clear ho6 hW5 hW6 C6 P5 Z5 O5 l5 P4 l4 p40 p41 p42 p43)
    | (at_builtin
       refine gen_w ?_
       intro W7 hW7
       have O7 : Hid (∃ e, W7 = over W6 e) := hid (by rw [hW7]; exact ovA)
       have S7 : Hid (SlL W7 (some ⟨W6.heap.size, 0, none⟩) 1 [⟨z1, z2, z3, z4⟩]) := hid (by rw [hW7]; exact (by (repeat with_reducible refine Sl.drew ?_); exact Sl.one_new (y := (⟨z1, z2, z3, z4⟩ : Lf)) (by simp; try omega)))
       have H7 : Hid (OwnLf (W4.heap.size + 1) W7 (.slice a6 x.length c6) x) := hid (by obtain ⟨e, he⟩ := O7.out; rw [he]; exact H6.out.over e)
       have hz7 : W6.heap.size ≤ W7.heap.size := by obtain ⟨e, he⟩ := O7.out; rw [he]; simp
       refine wpList_append' leaf_elem Lf.cs_len Lf.cs_one rfl (.tmp 38) (.tmp 40) rfl (base := W4.heap.size + 1) (v := .slice a6 x.length c6) (ys := x) (xs := [⟨z1, z2, z3, z4⟩]) H7.out rfl rfl (by omega) S7.out (by simp only [List.length_singleton]; unfold maxLen; omega) (by simp only [List.length_singleton]; omega) ?_
       intro v8 m8 ho8 _
       refine gen_w ?_
       intro W8 hW8
       have C8 : Chg (Value.slice a6 x.length c6).ownBlock.toList W7 W8 := by rw [hW8]; exact chg_chg _ _ _
       rw [← hW8] at ho8
       have hown : ∀ g ∈ (Value.slice a6 x.length c6).ownBlock.toList, W4.heap.size + 1 ≤ g := fun g hg => (Own.lt H7.out (by simpa using hg)).1
       have O8 : Hid (∃ e, W8 = over W4 e) := hid (Chg.ov (ov_tr O6.out O7.out) C8 (fun g hg => by have := hown g hg; omega))
       have HA8 : Hid (SlL W8 a4 c4 (x ++ [⟨z1, z2, z3, y4⟩])) := hid (by
         have h := H4.out
         rw [show x.length + 1 = (x ++ [(⟨z1, z2, z3, y4⟩ : Lf)]).length by rw [List.length_append, List.length_singleton]] at h
         obtain ⟨e, he⟩ := O8.out
         have h2 := (Own.slice' Lf.cs_len h).2
         rw [he]; exact Sl.over h2 e)
       have P8 : Hid (Blk W8 w.heap.size [.int .u32 (z1 : Nat), .int .u32 (z2 : Nat), .int .u32 (z3 : Nat), .int .u64 (y4 : Nat)] 26) := hid (by
         have hl := P6.out.lt
         refine Blk.chg (by obtain ⟨e, he⟩ := O7.out; rw [he]; exact Blk.on P6.out e) C8 (fun hm => ?_)
         have := hown _ hm
         have hw4 : w.heap.size ≤ W4.heap.size := by obtain ⟨e, he⟩ := O4.out; rw [he]; simp
         omega)
       obtain ⟨a8, c8, rfl, s8⟩ := Own.slice Lf.cs_len ho8
       rw [List.length_append, List.length_singleton]
       have HB8 := hid s8
       have O9 : Hid (∃ e, W8 = over w e) := hid (ov_tr O4.out O8.out)
       have l8 := P8.out.lt
       have p80 := P8.out.cell 0 rfl
       have p81 := P8.out.cell 1 rfl
       have p82 := P8.out.cell 2 rfl
       have p83 := P8.out.cell 3 rfl
       clear ho8 hW7 hW8 C8 H7 S7 O7 H6 Z6 P6 O6 O8 s8 hown l6 z60 z61 z62 z63 hz7 H4)
    | (go_at_call 7; (with_reducible refine (K1.out _ _ _ (by exact slA HA8.out)).mono ?_); rintro _ _ ⟨⟨e9, rfl⟩, rfl⟩))
  refine M2.wp_region_tree (fun w' => ∃ e : World, w' = over _ e) [2, 4, 5, 6, 11] (.q 0 (.q 1 (.q 3 (.e 2 (.e 4 (.e 5 (.e 6 (.q 7 (.q 8 (.q 9 (.q 10 (.e 11 (.q 12 (.q 13 (.q 14 .done))) .no))))) .no) .no) .no) (.e 4 (.e 2 (.e 5 (.e 6 (.q 7 (.q 8 (.q 9 (.q 10 (.e 11 (.q 12 (.q 13 (.q 14 .done))) .no))))) .no) .no) .no) .no))))) (by kernel_rfl) (by kernel_rfl) (ex_drew (over_self _)) ?_
  repeat (refine M2.tree_q rfl rfl ?_; go_big_quiet_step (fail); with_reducible refine wpQuiet_nil ?_)
  refine M2.tree_e (k := 2) rfl ?_ ?_
  · go_wp2_with ((first | (go_at_call 7; (with_reducible refine (K3.out _ (ovB O9.out)).mono ?_); rintro _ _ ⟨⟨e3, rfl⟩, rfl⟩) | (go_at_call 7; (with_reducible refine (HR4.out _ _ _ ?hs).mono ?_); (case hs => (first | exact Sl.one_new (y := (⟨z1, z2, z3, y4⟩ : Lf)) (by simp) | exact Sl.over (Sl.one_new (y := (⟨z1, z2, z3, y4⟩ : Lf)) (by simp)) _)); rintro _ _ ⟨⟨e4, rfl⟩, rfl⟩) | (go_at_call 7; (with_reducible refine (K2.out _ _ _ (by exact slA HB8.out)).mono ?_); rintro _ _ ⟨⟨e6, rfl⟩, rfl⟩)))
    refine M2.TreeQ.mk ovA ?_
    refine M2.tree_e1 (k := 4) rfl ?_
    go_wp2_with (fail)
    refine M2.TreeQ.mk ovA ?_
    refine M2.tree_e1 (k := 5) rfl ?_
    go_wp2_with ((first | (go_at_call 7; (with_reducible refine (K3.out _ (ovB O9.out)).mono ?_); rintro _ _ ⟨⟨e3, rfl⟩, rfl⟩) | (go_at_call 7; (with_reducible refine (HR4.out _ _ _ ?hs).mono ?_); (case hs => (first | exact Sl.one_new (y := (⟨z1, z2, z3, y4⟩ : Lf)) (by simp) | exact Sl.over (Sl.one_new (y := (⟨z1, z2, z3, y4⟩ : Lf)) (by simp)) _)); rintro _ _ ⟨⟨e4, rfl⟩, rfl⟩) | (go_at_call 7; (with_reducible refine (K2.out _ _ _ (by exact slA HB8.out)).mono ?_); rintro _ _ ⟨⟨e6, rfl⟩, rfl⟩)))
    refine M2.TreeQ.mk ovA ?_
    refine M2.tree_e1 (k := 6) rfl ?_
    go_wp2_with ((go_at_call 8; (with_reducible refine (HJ.out _).mono ?_); rintro _ _ ⟨⟨e5, rfl⟩, rfl⟩))
    refine M2.TreeQ.mk ovA ?_
    repeat (refine M2.tree_q rfl rfl ?_; go_big_quiet_step (fail); with_reducible refine wpQuiet_nil ?_)
    refine M2.tree_e1 (k := 11) rfl ?_
    go_wp2_with ((first | (go_at_call 7; (with_reducible refine (K3.out _ (ovB O9.out)).mono ?_); rintro _ _ ⟨⟨e3, rfl⟩, rfl⟩) | (go_at_call 7; (with_reducible refine (HR4.out _ _ _ ?hs).mono ?_); (case hs => (first | exact Sl.one_new (y := (⟨z1, z2, z3, y4⟩ : Lf)) (by simp) | exact Sl.over (Sl.one_new (y := (⟨z1, z2, z3, y4⟩ : Lf)) (by simp)) _)); rintro _ _ ⟨⟨e4, rfl⟩, rfl⟩) | (go_at_call 7; (with_reducible refine (K2.out _ _ _ (by exact slA HB8.out)).mono ?_); rintro _ _ ⟨⟨e6, rfl⟩, rfl⟩)))
    refine M2.TreeQ.mk ovA ?_
    repeat (refine M2.tree_q rfl rfl ?_; go_big_quiet_step (fail); with_reducible refine wpQuiet_nil ?_)
    refine M2.tree_done ?_
    go_wp2
    go_ret
    exact ⟨(ovB O9.out), rfl⟩
  refine M2.tree_e (k := 4) rfl ?_ ?_
  · go_wp2_with (fail)
    refine M2.TreeQ.mk ovA ?_
    refine M2.tree_e1 (k := 2) rfl ?_
    go_wp2_with ((first | (go_at_call 7; (with_reducible refine (K3.out _ (ovB O9.out)).mono ?_); rintro _ _ ⟨⟨e3, rfl⟩, rfl⟩) | (go_at_call 7; (with_reducible refine (HR4.out _ _ _ ?hs).mono ?_); (case hs => (first | exact Sl.one_new (y := (⟨z1, z2, z3, y4⟩ : Lf)) (by simp) | exact Sl.over (Sl.one_new (y := (⟨z1, z2, z3, y4⟩ : Lf)) (by simp)) _)); rintro _ _ ⟨⟨e4, rfl⟩, rfl⟩) | (go_at_call 7; (with_reducible refine (K2.out _ _ _ (by exact slA HB8.out)).mono ?_); rintro _ _ ⟨⟨e6, rfl⟩, rfl⟩)))
    refine M2.TreeQ.mk ovA ?_
    refine M2.tree_e1 (k := 5) rfl ?_
    go_wp2_with ((first | (go_at_call 7; (with_reducible refine (K3.out _ (ovB O9.out)).mono ?_); rintro _ _ ⟨⟨e3, rfl⟩, rfl⟩) | (go_at_call 7; (with_reducible refine (HR4.out _ _ _ ?hs).mono ?_); (case hs => (first | exact Sl.one_new (y := (⟨z1, z2, z3, y4⟩ : Lf)) (by simp) | exact Sl.over (Sl.one_new (y := (⟨z1, z2, z3, y4⟩ : Lf)) (by simp)) _)); rintro _ _ ⟨⟨e4, rfl⟩, rfl⟩) | (go_at_call 7; (with_reducible refine (K2.out _ _ _ (by exact slA HB8.out)).mono ?_); rintro _ _ ⟨⟨e6, rfl⟩, rfl⟩)))
    refine M2.TreeQ.mk ovA ?_
    refine M2.tree_e1 (k := 6) rfl ?_
    go_wp2_with ((go_at_call 8; (with_reducible refine (HJ.out _).mono ?_); rintro _ _ ⟨⟨e5, rfl⟩, rfl⟩))
    refine M2.TreeQ.mk ovA ?_
    repeat (refine M2.tree_q rfl rfl ?_; go_big_quiet_step (fail); with_reducible refine wpQuiet_nil ?_)
    refine M2.tree_e1 (k := 11) rfl ?_
    go_wp2_with ((first | (go_at_call 7; (with_reducible refine (K3.out _ (ovB O9.out)).mono ?_); rintro _ _ ⟨⟨e3, rfl⟩, rfl⟩) | (go_at_call 7; (with_reducible refine (HR4.out _ _ _ ?hs).mono ?_); (case hs => (first | exact Sl.one_new (y := (⟨z1, z2, z3, y4⟩ : Lf)) (by simp) | exact Sl.over (Sl.one_new (y := (⟨z1, z2, z3, y4⟩ : Lf)) (by simp)) _)); rintro _ _ ⟨⟨e4, rfl⟩, rfl⟩) | (go_at_call 7; (with_reducible refine (K2.out _ _ _ (by exact slA HB8.out)).mono ?_); rintro _ _ ⟨⟨e6, rfl⟩, rfl⟩)))
    refine M2.TreeQ.mk ovA ?_
    repeat (refine M2.tree_q rfl rfl ?_; go_big_quiet_step (fail); with_reducible refine wpQuiet_nil ?_)
    refine M2.tree_done ?_
    go_wp2
    go_ret
    exact ⟨(ovB O9.out), rfl⟩
  exact M2.tree_no
end Go.Proofs.YtnffcckhdedhpaaDoor
