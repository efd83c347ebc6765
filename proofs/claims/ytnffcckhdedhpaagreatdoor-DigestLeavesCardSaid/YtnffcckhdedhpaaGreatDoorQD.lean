import Derived.Test.YtnffcckhdedhpaaGreatDoorPB
import Derived.Test.YtnffcckhdedhpaaGreatDoorHD
import Derived.Test.YtnffcckhdedhpaaGreatDoorGB
import Derived.Test.YtnffcckhdedhpaaGreatDoorPC
import Derived.Test.YtnffcckhdedhpaaGreatDoorLLaid
import Derived.Test.YtnffcckhdedhpaaGreatDoorPD
import Derived.Test.YtnffcckhdedhpaaGreatDoorHF
import Derived.Test.YtnffcckhdedhpaaGreatDoorPA
namespace Go.Proofs.YtnffcckhdedhpaaGreatDoor
set_option linter.unusedVariables false
set_option linter.unusedSimpArgs false
set_option maxRecDepth 100000
set_option maxHeartbeats 2000000
section
open Go.RowKit
attribute [local go_sem] odr cdr
theorem leaf_neqN (w : World) (a b c d a' b' c' d' : Nat) : (binOp .neq 65 (.agg #[.int .u32 (a : Nat), .int .u32 (b : Nat), .int .u32 (c : Nat), .int .u64 (d : Nat)]) (.agg #[.int .u32 (a' : Nat), .int .u32 (b' : Nat), .int .u32 (c' : Nat), .int .u64 (d' : Nat)])).run Tryz.prog w = .ok (.bool (!lfEq ⟨a, b, c, d⟩ ⟨a', b', c', d'⟩)) w := by
 rw [leaf_neq]
 congr 3
 unfold lfEq; rw [Bool.eq_iff_iff]; simp only [Bool.and_eq_true, beq_iff_eq, decide_eq_true_eq, Lf.mk.injEq]; omega
attribute [local go_sem high] leaf_neqN
theorem sameLf_any (l : List Lf) (hl : l.length ≤ 100000) (a b : Option Addr) (c d : Nat) (w : World) (h1 : SlL w a c l) (h2 : SlL w b d l) :
    Calls Tryz.prog 14 #[.slice a l.length c, .slice b l.length d] w (Ret w (.bool true)) := by
  go_enter Tryz.func14, Tryz.ntmps14; go_wp2
  go_loopw [5] (fun i wr => ∃ k : Nat, k ≤ l.length ∧ i = .int .i64 (k : Nat) ∧ Ov w wr) (fun i _ => l.length - (intOf i).toNat)
  case atStart => exact ⟨0, Nat.zero_le _, rfl, ovA⟩
  case round =>
   obtain ⟨k, hk, rfl, ⟨e0, rfl⟩⟩ := hrel; by_cases hlt : k < l.length
   · obtain ⟨ub, uo, rfl, hub, u0, u1, u2, u3⟩ := SlL.at_ h1 hlt; obtain ⟨vb, vo, rfl, hvb, v0, v1, v2, v3⟩ := SlL.at_ h2 hlt; obtain ⟨⟨x1, x2, x3, x4⟩, hx⟩ : ∃ x, l[k]'hlt = x := ⟨_, rfl⟩; rw [hx] at u0 u1 u2 u3 v0 v1 v2 v3; simp only at u0 u1 u2 u3 v0 v1 v2 v3; have hd : decide (k < l.length) = true := decide_eq_true hlt; have he : lfEq ⟨x1, x2, x3, x4⟩ ⟨x1, x2, x3, x4⟩ = true := decide_eq_true rfl; clear hx h1 h2; go_wp2; refine wro (by kernel_rfl) (by kernel_rfl) ?_; repeat (go_big_quiet_step ((fail)))
     refine wpQuiet_nil ?_; intro _ hw'; obtain ⟨nq, rfl⟩ := hw'; go_wp2; go_roundw
     case rel => exact ⟨k + 1, by omega, by go_num, ovA⟩
     case measure => (simp [intOf]; try omega)
   · obtain rfl : k = l.length := by omega
     clear h1 h2; go_wp2; go_ret
     exact ⟨ovA, rfl⟩
end
section
open Go.RowKit
attribute [local go_sem] odr cdr
attribute [local go_sem high] place_eql place_neq
theorem rsame7_any (kd ep sr ch bi n5 ct sm N : Int) (cl : Bool) (bs : List Nat) (hbs : ∀ b ∈ bs, b < 256) (a1 a2 : Option Addr) (c1 c2 : Nat) (w : World) (h1 : SlB w a1 c1 bs) (h2 : SlB w a2 c2 bs) :
    Calls Tryz.prog 13 #[.agg #[.int .u8 kd, .int .u32 ep, .int .u32 sr, .int .u32 ch, .int .u32 bi, .int .u32 n5, .int .u32 ct, .bool cl, .int .u64 sm, .slice a1 bs.length c1, .int .i64 N], .agg #[.int .u8 kd, .int .u32 ep, .int .u32 sr, .int .u32 ch, .int .u32 bi, .int .u32 n5, .int .u32 ct, .bool cl, .int .u64 sm, .slice a2 bs.length c2, .int .i64 N]] w (Ret w (.bool true)) := by
  have HS := hid (fun W (hW : ∃ e, W = over w e) => rsame_any bs bs hbs hbs N N a1 c1 a2 c2 W (Sl.ov h1 hW) (Sl.ov h2 hW)); obtain ⟨n, hn⟩ : ∃ n, bs.length = n := ⟨_, rfl⟩; rw [hn] at HS; rw [hn]; clear h1 h2 hn
  go_enter Tryz.func13, Tryz.ntmps13; go_wp2_with (go_at_call 37; (with_reducible refine (HS.out _ ovA).mono ?_); rintro _ _ ⟨⟨e1, rfl⟩, rfl⟩)
  go_ret
  exact ⟨ovA, by first | rfl | simp⟩
end
section
open Go.RowKit
theorem frs_mem {s : Sr} {id n : Nat} {f : Fr} (h : f ∈ s.frs id n) : ∃ k c cl, k < n ∧ s.at_ k = Option.some (c, cl) ∧ c ≠ [] ∧ f = chF id k c cl := by
 unfold Sr.frs at h; obtain ⟨k, hkn, hk⟩ := List.mem_flatMap.1 h; cases ha : s.at_ k with
 | none => rw [ha] at hk; simp at hk
 | some y =>
  obtain ⟨c, cl⟩ := y; rw [ha] at hk; simp only at hk; split at hk
  · simp at hk
  · rename_i hc
    simp only [List.mem_singleton] at hk; exact ⟨k, c, cl, List.mem_range.1 hkn, ha, hc, hk⟩
theorem len_le_sum : ∀ (l : List Nat), (∀ x ∈ l, 1 ≤ x) → l.length ≤ l.sum
  | [], _ => by simp
  | a :: l, h => by
   have := len_le_sum l (fun x hx => h x (by simp [hx])); have := h a (by simp); simp; omega
theorem frs_le {s : Sr} (h : SrOk s) (id : Nat) : (s.frs id (s.cl.length + 1)).length ≤ s.all.length := by
 rw [← frs_sum h id]; have := len_le_sum ((s.frs id (s.cl.length + 1)).map Fr.count) (fun x hx => by
  obtain ⟨f, hf, rfl⟩ := List.mem_map.1 hx; obtain ⟨k, c, cl, _, _, hc, rfl⟩ := frs_mem hf; exact List.length_pos_iff.2 hc)
 simpa using this
theorem sum_set : ∀ (l : List Nat) (i v : Nat) (h : i < l.length), (l.set i v).sum + l[i] = l.sum + v
  | [], i, v, h => by simp at h
  | a :: l, 0, v, h => by simp; omega
  | a :: l, i + 1, v, h => by
   have := sum_set l i v (by simpa using h); simp; omega
def totS (S : List (Nat × Sr)) : Nat := (S.map fun x => x.2.all.length).sum
theorem tot_step {sz : Nat} {S : List (Nat × Sr)} (hn : (S.map (·.1)).Nodup) (o : Nat × Sm) : totS (stepS sz S o) ≤ totS S + 1 := by
 unfold stepS; split
 · by_cases hi : ∃ i, ∃ hi : i < S.length, S[i].1 = o.1
   · obtain ⟨i, hi, he⟩ := hi; rw [← he, putS_old hn hi]; unfold totS; rw [List.map_set]; have := sum_set (S.map fun x => x.2.all.length) i ((S[i].2.put sz o.2).all.length) (by simpa using hi); simp only [put_all, List.length_append, List.length_singleton, List.getElem_map] at this ⊢; omega
   · have hn : ∀ y ∈ S, y.1 ≠ o.1 := by
      intro y hy he; obtain ⟨i, hi', rfl⟩ := List.getElem_of_mem hy; exact hi ⟨i, hi', he⟩
     rw [putS_new hn]; have e : (Sr.zero.put sz o.2).all.length = 1 := by rw [put_all]; rfl
     unfold totS; rw [List.map_append, List.sum_append, List.map_cons, List.map_nil, List.sum_cons, List.sum_nil, e]; omega
 · omega
theorem lay_tot {sz : Nat} (hsz : 1 ≤ sz) (ops : List (Nat × Sm)) : ∀ k, k ≤ ops.length → totS (layS sz (ops.take k)) ≤ k
  | 0, _ => by simp [layS, totS]
  | k + 1, h => by
   have h1 := lay_tot hsz ops k (by omega); have h2 := layI hsz ops k (by omega); rw [layS_take (by omega)]; have := tot_step (sz := sz) h2.ids ops[k]; omega
section
variable {W : World} {base b mb sz : Nat} {L : List Se} {ops : List (Nat × Sm)} {rs : List Rs}
theorem lvs_len (L : List Se) (ids : List Nat) : (lvs L ids).length = (ids.map fun id => (frsB L id).length).sum := by
 unfold lvs lvO; rw [List.length_flatMap]
 congr 1
 simp
theorem sum_ks (g : Nat → Nat) (l : List Nat) : ((srtN l).map g).sum = (l.map g).sum := ((srtN_perm l).map g).sum_nat
theorem lvs_60 (h : Laid W base b mb sz L (layS sz ops) rs) (hsz : 1 ≤ sz) (hol : ops.length ≤ 60) : (lvs L (srtN (L.map (·.id)))).length ≤ 60 := by
 rw [lvs_len, sum_ks]; have h1 : L.map (·.id) = (bkOf L).map (·.1) := by simp
 rw [h1, List.map_map, h.eq]; have ht := lay_tot hsz ops ops.length (Nat.le_refl _); rw [List.take_length] at ht; refine Nat.le_trans ?_ (Nat.le_trans ht hol); unfold totS; have key : ∀ (l : List (Nat × Sr)), (∀ x ∈ l, (frsB L x.1).length ≤ x.2.all.length) → (l.map ((fun id => (frsB L id).length) ∘ fun x => x.1)).sum ≤ (l.map fun x => x.2.all.length).sum := by
  intro l
  induction l with
  | nil => intro _; simp
  | cons a l ih =>
   intro hl; have e1 := ih (fun x hx => hl x (by simp [hx])); have e2 := hl a (by simp); simp only [List.map_cons, List.sum_cons, Function.comp] at e1 ⊢; omega
 refine key _ (fun x hx => ?_); obtain ⟨i, hi, rfl⟩ := List.getElem_of_mem hx; have hg : getS (bkOf L) (layS sz ops)[i].1 = (layS sz ops)[i].2 := by rw [h.eq]; exact getS_at h.I.ids hi
 unfold frsB; rw [hg]; exact frs_le (by rw [← hg]; exact getS_ok h.bk _) _
theorem ks_up (h : Laid W base b mb sz L (layS sz ops) rs) : (srtN (L.map (·.id))).Pairwise (· < ·) := by
 have h1 := srtN_sorted (L.map (·.id)); have h2 : (srtN (L.map (·.id))).Nodup := by rw [(srtN_perm _).nodup_iff]; exact h.bk.ids
 rw [List.nodup_iff_pairwise_ne] at h2; exact List.Pairwise.imp₂ (fun _ _ h1 h2 => by omega) h1 h2
theorem lvs_mem {x : Lf} {ids : List Nat} : x ∈ lvs L ids ↔ ∃ id ∈ ids, ∃ f ∈ frsB L id, lfO f = x := by
 unfold lvs lvO; rw [List.mem_flatMap]
 constructor
 · rintro ⟨id, h1, h2⟩; obtain ⟨f, h3, h4⟩ := List.mem_map.1 h2; exact ⟨id, h1, f, h3, h4⟩
 · rintro ⟨id, h1, f, h3, h4⟩; exact ⟨id, h1, List.mem_map.2 ⟨f, h3, h4⟩⟩
theorem lvs_wf (h : BkAt base W b 64 sz mb L) (hcl : ∀ id, (getS (bkOf L) id).cl.length ≤ 900) : ∀ x ∈ lvs L (srtN (L.map (·.id))), x.wf := by
 intro x hx; obtain ⟨id, h1, f, h2, rfl⟩ := lvs_mem.1 hx; rw [(srtN_perm _).mem_iff] at h1; obtain ⟨y, hy, rfl⟩ := List.mem_map.1 h1; obtain ⟨k, c, cl, hk, ha, _, rfl⟩ := frs_mem h2; have := hcl y.id; refine ⟨h.id32 y hy, ?_, ?_, Nat.lt_trans (moreR_lt _ _) (by decide)⟩
 · show k < 4294967296
   omega
 · show c.length < 4294967296
   have hok := getS_ok h y.id; have hc : ChkOk c := by
    unfold Sr.at_ at ha; split at ha
    · simp only [Option.some.injEq, Prod.mk.injEq] at ha; rw [← ha.1]; exact (hok.cl _ (List.getElem_mem _)).2
    · split at ha
      · simp only [Option.some.injEq, Prod.mk.injEq] at ha; rw [← ha.1]; exact hok.op
      · simp at ha
   have := hc.len; omega
end
end
section
open Go.RowKit
attribute [local go_sem] odr cdr
theorem apL_len (a b : List Lf) : (apL a b).length = (idsU a b).length := by unfold apL; simp
theorem idsU_len (a b : List Lf) : (idsU a b).length ≤ a.length + b.length := by
 unfold idsU; rw [srtN_len]; refine Nat.le_trans (List.length_filter_le _ _) ?_; have h : (((a ++ b).map (·.s)).eraseDups).length ≤ ((a ++ b).map (·.s)).length := by
  have : ∀ (n : Nat) (l : List Nat), l.length ≤ n → l.eraseDups.length ≤ l.length := by
   intro n
   induction n with
   | zero => intro l h; obtain rfl := List.eq_nil_of_length_eq_zero (Nat.le_zero.1 h); simp
   | succ n ih =>
    intro l h; cases l with
    | nil => simp
    | cons a l =>
     rw [List.eraseDups_cons]; have h1 := List.length_filter_le (fun b => !b == a) l; simp only [List.length_cons] at h ⊢; have := ih (l.filter fun b => !b == a) (by omega); omega
  exact this _ _ (Nat.le_refl _)
 simpa using h
end
section
open Go.RowKit Go.ChangeShapes Go.WideShapes Go.ChangeAt
theorem lf_dec (cs : List Value) (h : okAll [some .u32, some .u32, some .u32, some .u64] cs) : ∃ s : Lf, s.wf ∧ s.cs = cs := by
 have hl := okAll_length _ _ h
 match cs, hl with
 | [v0, v1, v2, v3], _ =>
  obtain ⟨⟨a, rfl, ha⟩, ⟨b, rfl, hb⟩, ⟨c, rfl, hc⟩, ⟨d, rfl, hd⟩, _⟩ := h; obtain ⟨a, rfl, ha'⟩ := u32_nat ha; obtain ⟨b, rfl, hb'⟩ := u32_nat hb; obtain ⟨c, rfl, hc'⟩ := u32_nat hc; obtain ⟨d, rfl, hd'⟩ := u64_nat hd; exact ⟨⟨a, b, c, d⟩, ⟨ha', hb', hc', hd'⟩, rfl⟩
section
variable {H : Type} {enc : TypeId × Value → H} {W : World} {spare : Nat → Bool} {held : Bool}
theorem open_leaves {a : Option Addr} {n cap : Nat} {y : DataW H} {ps : List MemPlace} {base : Nat} (h : DataW.Trod enc Tryz.prog W base spare held 23 (.slice a n cap) y ps) : ∃ xs : List Lf, xs.length = n ∧ Sl 4 Lf.cs W a cap xs ∧ ∀ x ∈ xs, x.wf :=
 open_sl (d := 5) (ks := [some .u32, some .u32, some .u32, some .u64]) (e := 65) lf_dec (by decide) (by kernel_rfl) (by kernel_rfl) Tryz.underlying23 h
end
end
end Go.Proofs.YtnffcckhdedhpaaGreatDoor
