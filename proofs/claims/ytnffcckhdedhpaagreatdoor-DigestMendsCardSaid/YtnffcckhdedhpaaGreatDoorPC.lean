import Derived.Test.YtnffcckhdedhpaaGreatDoorPB
import Derived.Test.YtnffcckhdedhpaaGreatDoorLC
import Derived.Test.YtnffcckhdedhpaaGreatDoorHC
import Derived.Test.YtnffcckhdedhpaaGreatDoorLB
import Derived.Test.YtnffcckhdedhpaaGreatDoorPA
namespace Go.Proofs.YtnffcckhdedhpaaGreatDoor
set_option linter.unusedVariables false
set_option linter.unusedSimpArgs false
set_option maxRecDepth 100000
set_option maxHeartbeats 16000000
section
open Go.RowKit
attribute [local go_sem] odr cdr
def lfO (f : Fr) : Lf := ⟨f.series, f.from_.chunk, f.count, moreR 0 f.bits⟩
theorem leaf_any (f : Fr) (hl : f.bits.length ≤ 900000) (a : Option Addr) (cap : Nat) (w : World) (hs : SlB w a cap (pack f.bits)) :
    Calls Tryz.prog 30 #[f.v a cap] w (Ret w (lfO f).v) := by
  obtain ⟨sr, ⟨ch, bi, n⟩, ct, cl, sm, bs⟩ := f; simp only at hl hs; have HR := hid (fun (W : World) (h : ∃ e, W = over w e) => rollOf_any bs hl a cap W (Sl.ov hs h)); obtain ⟨r, hr⟩ : ∃ r, moreR 0 bs = r := ⟨_, rfl⟩; obtain ⟨pn, hpn⟩ : ∃ n, (pack bs).length = n := ⟨_, rfl⟩; obtain ⟨bn, hbn⟩ : ∃ n, bs.length = n := ⟨_, rfl⟩; rw [hr, hpn, hbn] at HR; simp only [Fr.v, lfO, hr, hpn, hbn, Lf.v]; clear hs hl hr hpn hbn
  go_enter Tryz.func30, Tryz.ntmps30; go_wp2_with (go_at_call 59; (with_reducible refine (HR.out _ ovA).mono ?_); rintro _ _ ⟨⟨e1, rfl⟩, rfl⟩)
  (try simp only [Exit.inBlock, Exit.then])
  refine bodyPost_ret (v := ?rv89) ?rh89 rfl ?rp89
  case rh89 => (simp only [results, show Tryz.f30.results = #[.cell 2 65] from rfl]; go_simp; rfl)
  exact ⟨ovA, rfl⟩
def frsB (L : List Se) (id : Nat) : List Fr := (getS (bkOf L) id).frs id ((getS (bkOf L) id).cl.length + 1)
def lvO (L : List Se) (id : Nat) : List Lf := (frsB L id).map lfO
def lvs (L : List Se) (ids : List Nat) : List Lf := ids.flatMap (lvO L)
theorem lvs_take (L : List Se) (ids : List Nat) (k : Nat) : (lvs L (ids.take k)).length ≤ (lvs L ids).length := by
 have h : lvs L ids = lvs L (ids.take k) ++ lvs L (ids.drop k) := by unfold lvs; rw [← List.flatMap_append, List.take_append_drop]
 rw [h, List.length_append]; omega
theorem lvs_succ (L : List Se) {ids : List Nat} {k : Nat} (h : k < ids.length) : lvs L (ids.take (k + 1)) = lvs L (ids.take k) ++ lvO L ids[k] := by
 unfold lvs; rw [List.take_succ_eq_append_getElem h, List.flatMap_append]; simp
end
section
open Go.RowKit
def KnM (m : List (Lf × Value)) (l : List Lf) : Prop := ∀ x, (kGet m x).getD (.int .i64 0) = .int .i64 (l.count x : Nat)
theorem KnM.nil : KnM [] [] := fun _ => rfl
theorem KnM.put {m : List (Lf × Value)} {l : List Lf} (h : KnM m l) (x : Lf) : KnM (kPut m x (.int .i64 ((l.count x : Nat) + 1 : Int))) (l ++ [x]) := by
 intro y; rw [kget_put, List.count_append]; by_cases e : x = y
 · subst e; rw [if_pos rfl]; simp
 · rw [if_neg e, h y]; have : List.count y [x] = 0 := by rw [List.count_eq_zero]; simp; exact fun h => e h.symm
   rw [this]; rfl
def told (l : List Lf) (f : Fr) : Bool := decide (lfO f ∈ l)
theorem told_count {l : List Lf} {f : Fr} : (((l.count (lfO f) : Nat) : Int) == 0) = !told l f := by
 unfold told; rw [Bool.eq_iff_iff]; simp [List.count_eq_zero]
def lakO (L : List Se) (l : List Lf) (id : Nat) : List Fr := (frsB L id).dropWhile (told l)
def lak (L : List Se) (l : List Lf) (ids : List Nat) : List Fr := ids.flatMap (lakO L l)
theorem lak_take (L : List Se) (l : List Lf) (ids : List Nat) (k : Nat) : (lak L l (ids.take k)).length ≤ (lak L l ids).length := by
 have h : lak L l ids = lak L l (ids.take k) ++ lak L l (ids.drop k) := by unfold lak; rw [← List.flatMap_append, List.take_append_drop]
 rw [h, List.length_append]; omega
theorem lak_succ (L : List Se) (l : List Lf) {ids : List Nat} {k : Nat} (h : k < ids.length) : lak L l (ids.take (k + 1)) = lak L l (ids.take k) ++ lakO L l ids[k] := by
 unfold lak; rw [List.take_succ_eq_append_getElem h, List.flatMap_append]; simp
theorem drop_at {α : Type} (p : α → Bool) {l : List α} {k : Nat} (hk : k < l.length) (h1 : ∀ x ∈ l.take k, p x = true) (h2 : p l[k] = false) : l.dropWhile p = l.drop k := by
 have h : l = l.take k ++ l.drop k := (List.take_append_drop k l).symm; have : (l.take k ++ l.drop k).dropWhile p = l.drop k := by
  rw [List.dropWhile_append_of_pos (by simpa using h1), List.drop_eq_getElem_cons hk, List.dropWhile_cons, h2]; simp
 rw [← h] at this; exact this
theorem drop_none {α : Type} (p : α → Bool) {l : List α} (h1 : ∀ x ∈ l, p x = true) : l.dropWhile p = [] := by
 induction l with
 | nil => rfl
 | cons a l ih =>
  rw [List.dropWhile_cons, h1 a (by simp), if_pos rfl]; exact ih (fun x hx => h1 x (by simp [hx]))
def idxG {α : Type} (p : α → Bool) (xs : List α) : Int := match xs.findIdx? p with
 | some i => (i : Nat)
 | none => -1
theorem idxG_yes {α : Type} {p : α → Bool} {xs : List α} {k : Nat} (hk : k < xs.length) (hb : ∀ j, (h : j < k) → p (xs[j]'(by omega)) = false) (h : p xs[k] = true) : idxG p xs = (k : Nat) := by
 unfold idxG; rw [List.findIdx?_eq_some_iff_getElem.2 ⟨hk, h, fun j hj => by simp [hb j hj]⟩]
theorem idxG_no {α : Type} {p : α → Bool} {xs : List α} (hb : ∀ j, (h : j < xs.length) → p xs[j] = false) : idxG p xs = -1 := by
 unfold idxG; rw [List.findIdx?_eq_none_iff.2 (fun x hx => by obtain ⟨j, hj, rfl⟩ := List.getElem_of_mem hx; simp [hb j hj])]
theorem idxG_drop {α : Type} (p : α → Bool) (xs : List α) : (idxG (fun x => !p x) xs = -1 ∧ xs.dropWhile p = []) ∨ ∃ k, k < xs.length ∧ idxG (fun x => !p x) xs = (k : Nat) ∧ xs.dropWhile p = xs.drop k := by
 unfold idxG; cases h : xs.findIdx? (fun x => !p x) with
 | none =>
  left
  refine ⟨rfl, drop_none p (fun x hx => ?_)⟩; have := List.findIdx?_eq_none_iff.1 h x hx
  simpa using this
 | some k =>
  right
  obtain ⟨hk, h1, h2⟩ := List.findIdx?_eq_some_iff_getElem.1 h; refine ⟨k, hk, rfl, drop_at p hk (fun x hx => ?_) (by simpa using h1)⟩; obtain ⟨j, hj, rfl⟩ := List.getElem_of_mem hx; simp only [List.length_take] at hj; have := h2 j (by omega)
  simpa using this
theorem frs_bits {s : Sr} (h : SrOk s) (id n : Nat) : ∀ f ∈ s.frs id n, f.bits.length ≤ 3504 := by
 intro f hf; unfold Sr.frs at hf; obtain ⟨k, _, hk⟩ := List.mem_flatMap.1 hf; cases ha : s.at_ k with
 | none => rw [ha] at hk; simp at hk
 | some y =>
  obtain ⟨c, cl⟩ := y; rw [ha] at hk; simp only at hk; split at hk
  · simp at hk
  · simp only [List.mem_singleton] at hk; subst hk; have hc : ChkOk c := by
     unfold Sr.at_ at ha; split at ha
     · simp only [Option.some.injEq, Prod.mk.injEq] at ha; rw [← ha.1]; exact (h.cl _ (List.getElem_mem _)).2
     · split at ha
       · simp only [Option.some.injEq, Prod.mk.injEq] at ha; rw [← ha.1]; exact h.op
       · simp at ha
    have := blen_le hc c.length; unfold blen at this; rw [List.take_length] at this; exact this
theorem bk_bits {base : Nat} {w : World} {b n sz mb : Nat} {L : List Se} (h : BkAt base w b n sz mb L) : ∀ id, ∀ f ∈ frsB L id, f.bits.length ≤ 3504 := fun id => frs_bits (getS_ok h id) id _
theorem Sl.dropF {α : Type} {sz : Nat} {cells : α → List Value} {w : World} {a : Option Addr} {cap : Nat} {xs ys : List α} (h : Sl sz cells w a cap (xs ++ ys)) :
    Sl sz cells w (if cap = xs.length then a else a.map (fun x => x.add (xs.length * sz))) (cap - xs.length) ys := by
  have hle := h.le; have hmx := h.max; simp only [List.length_append] at hle; refine ⟨by omega, by omega, fun hn => ?_, fun k x hx => ?_⟩
  · split at hn
    · omega
    · have h1 : a = none := by simpa using hn
      have := h.nul h1; omega
  · have hk : k < ys.length := (List.getElem?_eq_some_iff.1 hx).1; obtain ⟨b, off, rfl, hb, hc⟩ := h.rec_ (xs.length + k) x (by rw [List.getElem?_append_right (by omega), Nat.add_sub_cancel_left]; exact hx); refine ⟨b, off + xs.length * sz, ?_, hb, fun m u hu => ?_⟩
    · rw [if_neg (by omega), Option.map_some, Go.WideShapes.add_plain]
    · have := hc m u hu; rw [Nat.add_mul, ← Nat.add_assoc] at this; exact this
end
section
open Go.RowKit
attribute [local go_sem] odr cdr
theorem Own.same {α : Type} {base : Nat} {e : TypeId} {sz : Nat} {cells : α → List Value} {w w' : World} {v : Value} {xs : List α} (h : Own base e sz cells w v xs) (hF : ∀ g, v.ownBlock = some g → w'.heap[g]? = w.heap[g]?) : Own base e sz cells w' v xs := by
 refine ⟨h.1, ?_⟩; rcases h.2 with hn | ⟨g, cap, cur, rfl, hb, hgg, rest⟩
 · exact .inl hn
 · refine .inr ⟨g, cap, cur, rfl, hb, ?_, rest⟩; rw [hF g rfl]; exact hgg
structure LvI (wb w8 : World) (bF : Nat) (v : Value) (acc : List Lf) (wr : World) : Prop where
 own : OwnLf wb.heap.size wr v acc
 sep : ∀ g, v.ownBlock = some g → g < bF ∨ w8.heap.size ≤ g
 keep : ∀ i, bF ≤ i → i < w8.heap.size → wr.heap[i]? = w8.heap[i]?
 sz : w8.heap.size ≤ wr.heap.size
 ov : ∃ e, wr = over wb e
theorem LvI.step {wb w8 wr W W' : World} {bF : Nat} {v v' : Value} {acc acc' : List Lf} (h : LvI wb w8 bF v acc wr) (hW : ∃ e, W = over wr e) (hc : Chg v.ownBlock.toList W W') (ho : OwnLf wb.heap.size W' v' acc') (hv : v'.ownBlock = v.ownBlock ∨ ∃ g, v'.ownBlock = some g ∧ W.heap.size ≤ g) : LvI wb w8 bF v' acc' W' := by
 have h1 : Chg v.ownBlock.toList wr W := Chg.of_ov hW _; have hz : wr.heap.size ≤ W.heap.size := by obtain ⟨e, rfl⟩ := hW; simp
 have hsz := h.sz; refine ⟨ho, fun g hg => ?_, fun i hi hi2 => ?_, ?_, ?_⟩
 · rcases hv with hv | ⟨g', hg', hle⟩
   · exact h.sep g (by rw [← hv]; exact hg)
   · rw [hg'] at hg; injection hg with hg; subst hg; right; omega
 · have hn : i ∉ v.ownBlock.toList := fun hm => by have := h.sep i (by simpa using hm); omega
   rw [hc.block i (by omega) hn, h1.block i (by omega) hn]; exact h.keep i hi hi2
 · have := hc.size; omega
 · exact Chg.ov (Chg.ov h.ov h1 (fun g hg => (Own.lt h.own (by simpa using hg)).1)) hc (fun g hg => (Own.lt h.own (by simpa using hg)).1)
theorem frs_at {bF : Nat} {w8 wr : World} {v : Value} {fx : List Fx} (h : FrsAt bF w8 v fx) (hk : ∀ i, bF ≤ i → i < w8.heap.size → wr.heap[i]? = w8.heap[i]?) : FrsAt bF wr v fx :=
 ⟨Own.same h.row (fun g hg => hk g (Own.lt h.row hg).1 (Own.lt h.row hg).2), fun x hx => Own.same (h.bits x hx) (fun g hg => hk g (Own.lt (h.bits x hx) hg).1 (Own.lt (h.bits x hx) hg).2), h.apart⟩
theorem leaves_any {base : Nat} {w : World} {b n sz mb : Nat} {L : List Se} (h : BkAt base w b n sz mb L) (hl : L.length ≤ 1000) (hcl : ∀ id, (getS (bkOf L) id).cl.length ≤ 900)
    (hbits : ∀ id, ∀ f ∈ frsB L id, f.bits.length ≤ 900000) (hB : (lvs L (srtN (L.map (·.id)))).length ≤ 100000) :
    Calls Tryz.prog 9 #[.pointer (some ⟨b, 0, none⟩)] w (LfsPost w (lvs L (srtN (L.map (·.id))))) := by
  have HSer := hid (fun (W : World) (hW : ∃ e, W = over w e) => series_any (bk_ov h hW) (by omega)); have HCh := hid (fun (id : Nat) (W : World) (hW : ∃ e, W = over w e) => chunks_any (bk_ov h hW) id rfl (hcl id)); obtain ⟨ks, hks⟩ : ∃ ks, srtN (L.map (·.id)) = ks := ⟨_, rfl⟩; rw [hks] at HSer hB ⊢; clear h hks hcl
  go_enter Tryz.func9, Tryz.ntmps9; go_wp2_with (go_at_call 28; (with_reducible refine (HSer.out _ ovA).mono ?_); rintro _ _ ⟨⟨e2, rfl⟩, v2, rfl, o2⟩; obtain ⟨a2, c2, rfl, s2⟩ := Own.slice wcs_len o2; have S2 := hid s2; clear o2 s2)
  go_loopw [3, 11] (fun v i wr => ∃ k : Nat, k ≤ ks.length ∧ i = .int .i64 (k : Nat) ∧ OwnLf (over w e2).heap.size wr v (lvs L (ks.take k)) ∧ Ov (over w e2) wr) (fun _ i _ => ks.length - (intOf i).toNat)
  case atStart => exact ⟨0, Nat.zero_le _, rfl, Own.nil _, ovA⟩
  case round =>
   obtain ⟨k, hk, rfl, hown, ⟨e3, rfl⟩⟩ := hrel; have HOW := hid hown; have hmk := len_max S2.out; by_cases hlt : k < ks.length
   · obtain ⟨sb, so, rfl, hsb, q0⟩ := SlW.at1 S2.out hlt; simp only [size_over] at hsb; have hsuc := lvs_succ L hlt; obtain ⟨id, hid0⟩ : ∃ id, ks[k]'hlt = id := ⟨_, rfl⟩; rw [hid0] at q0 hsuc; have hle := lvs_take L ks (k + 1); have hbt := hbits id; have HC := hid (HCh.out id); obtain ⟨fs, hfs⟩ : ∃ fs, frsB L id = fs := ⟨_, rfl⟩; have hlv : lvO L id = fs.map lfO := by unfold lvO; rw [hfs]
     rw [hlv] at hsuc; rw [hsuc, List.length_append, List.length_map] at hle; rw [hfs] at hbt; have HC2 : Hid (∀ W, (∃ e, W = over w e) → Calls Tryz.prog 29 #[.pointer (some ⟨b, 0, none⟩), .int .u32 (id : Nat)] W (ChsP W fs)) := hid (by rw [← hfs]; exact HC.out); obtain ⟨P, hP⟩ : ∃ P, lvs L (ks.take k) = P := ⟨_, rfl⟩; rw [hP] at HOW hsuc hle; have HSU := hid hsuc; have hd : decide (k < ks.length) = true := decide_eq_true hlt; clear hid0 hfs hlv hsuc hP HC hown hbits; go_wp2_with (go_at_call 29; (with_reducible refine (HC2.out _ ovA).mono ?_); rintro _ w8 ⟨hov8, v8, fx, rfl, hm8, hf8⟩; obtain ⟨a8, c8, rfl, s8⟩ := Own.slice Fx.cs_len hf8.row; have O8 : Hid (∃ e, w8 = over (over (over w e2) e3) e) := hid hov8; have S8 := hid s8; have HF8 := hid hf8; have HM8 := hid hm8; clear hov8 hm8 hf8 s8)
     have HFL : Hid (fx.length = fs.length) := hid (by rw [← HM8.out]; simp); have I8 : Hid (LvI (over w e2) w8 (over (over w e2) e3).heap.size u3 P w8) := hid ⟨by obtain ⟨e9, he⟩ := O8.out; rw [he]; exact HOW.out.over e9, fun g hg => .inl (Own.lt HOW.out hg).2, fun _ _ _ => rfl, Nat.le_refl _, ov_tr ovA O8.out⟩; obtain ⟨bF, hbF⟩ : ∃ n, (over (over w e2) e3).heap.size = n := ⟨_, rfl⟩; rw [hbF] at I8 HF8; have hmx := len_max S8.out; clear HOW O8 q0 hbF
     go_loopw [3, 19] (fun v i wr => ∃ j : Nat, j ≤ fx.length ∧ i = .int .i64 (j : Nat) ∧ LvI (over w e2) w8 bF v (P ++ (fs.take j).map lfO) wr) (fun _ i _ => fx.length - (intOf i).toNat)
     case atStart => exact ⟨0, Nat.zero_le _, rfl, by rw [List.take_zero, List.map_nil, List.append_nil]; exact I8.out⟩
     case round =>
      obtain ⟨j, hj, rfl, hI⟩ := hrel; obtain ⟨A, hA⟩ : ∃ A, P ++ (fs.take j).map lfO = A := ⟨_, rfl⟩; rw [hA] at hI; have HAD := hid hA; have HI := hid hI; have hFr := frs_at HF8.out hI.keep; have hown := hI.own; obtain ⟨av, cv, rfl, hsla⟩ := Own.slice Lf.cs_len hown; clear hsla; have HOW := hid hown; have hzb : (over w e2).heap.size ≤ wr.heap.size := by obtain ⟨e9, he⟩ := hI.ov; rw [he]; simp
      by_cases hj2 : j < fx.length
      · obtain ⟨a9, c9, hv9, hs9⟩ := Own.slice Fx.cs_len hFr.row
        injection hv9 with v1 v2 v3
        subst v1 v3; clear v2; obtain ⟨b8, o8, rfl, hb8', hcell⟩ := SlF.at_ hs9 hj2; have hmem : fx[j]'hj2 ∈ fx := List.getElem_mem hj2; have hbq := hFr.bits _ hmem; have hjs : j < fs.length := by rw [← HFL.out]; exact hj2
        have hqf : fs[j]'hjs = (fx[j]'hj2).f := by
         have h : fs[j]? = Option.some fx[j].f := by rw [← HM8.out]; simp [hj2]
         rw [List.getElem?_eq_getElem hjs] at h; exact Option.some.inj h
        have htk : (fs.take (j + 1)).map lfO = (fs.take j).map lfO ++ [lfO (fx[j]'hj2).f] := by
         rw [List.take_succ_eq_append_getElem hjs, List.map_append, hqf]; rfl
        have hfb := hbt _ (List.getElem_mem hjs); rw [hqf] at hfb; obtain ⟨x, hx⟩ : ∃ x, fx[j]'hj2 = x := ⟨_, rfl⟩; rw [hx] at hcell hbq htk hfb; obtain ⟨⟨sr, ⟨ch, bi, n5⟩, ct, cl, sm, bs⟩, xa, xc⟩ := x; obtain ⟨ax, cx, hxe, hxs⟩ := Own.slice (sz := 1) (cells := bcs) (fun _ => rfl) hbq; simp only [Value.slice.injEq] at hxe; obtain ⟨rfl, _, rfl⟩ := hxe; have HL := hid (fun (W : World) (hW : ∃ e, W = over wr e) => leaf_any ⟨sr, ⟨ch, bi, n5⟩, ct, cl, sm, bs⟩ hfb xa xc W (Sl.ov hxs hW)); have z0 := hcell 0 _ rfl; have z1 := hcell 1 _ rfl; have z2 := hcell 2 _ rfl; have z3 := hcell 3 _ rfl; have z4 := hcell 4 _ rfl; have z5 := hcell 5 _ rfl; have z6 := hcell 6 _ rfl; have z7 := hcell 7 _ rfl; have z8 := hcell 8 _ rfl; have z9 := hcell 9 _ rfl; have z10 := hcell 10 _ rfl; rw [Nat.add_zero] at z0; obtain ⟨pn, hpn⟩ : ∃ n, (pack bs).length = n := ⟨_, rfl⟩; obtain ⟨bn, hbn⟩ : ∃ n, bs.length = n := ⟨_, rfl⟩; obtain ⟨r, hr⟩ : ∃ r, moreR 0 bs = r := ⟨_, rfl⟩; simp only [Fr.v, lfO, Lf.v, hpn, hbn, hr] at HL z9 z10 htk; have HTK := hid htk; have hle2 : A.length < 100000 := by rw [← hA, List.length_append, List.length_map, List.length_take]; omega
        have hd2 : decide (j < fx.length) = true := decide_eq_true hj2; clear hcell hmem hbq hqf hfb hx hxs htk hpn hbn hr hown hjs hs9 hFr hI hA
        go_wp2_with (first
          | (go_at_call 30; (with_reducible refine (HL.out _ ovA).mono ?_); rintro _ _ ⟨⟨e4, rfl⟩, rfl⟩)
          | (at_builtin; refine wpList_append' leaf_elem Lf.cs_len Lf.cs_one rfl (.tmp 23) (.tmp 26) rfl (base := (over w e2).heap.size) (v := .slice av A.length cv) (ys := A) (xs := [⟨sr, ch, ct, r⟩]) (by exact ownA HOW.out) rfl rfl (by simp only [World.size_alloc, size_over] at hzb ⊢; omega) (by (repeat with_reducible refine Sl.drew ?_); exact Sl.one_new (y := (⟨sr, ch, ct, r⟩ : Lf)) (by simp; try omega)) (by simp only [List.length_singleton]; unfold maxLen; omega) (by simp only [List.length_singleton]; omega) ?_; intro v' m6 ho2 hv2; have HI2 := hid (LvI.step HI.out ovA (chg_chg _ _ m6) ho2 hv2); clear ho2 hv2))
        go_roundw
        case rel => exact ⟨j + 1, by omega, by go_num, by rw [HTK.out, ← List.append_assoc, HAD.out]; exact HI2.out⟩
        case measure => (simp [intOf]; try omega)
      · have hA2 : A = P ++ fs.map lfO := by rw [← hA, List.take_of_length_le (show fs.length ≤ j by have := HFL.out; omega)]
        have HA2 := hid hA2; have O3 := hid HI.out.ov; have hd3 : decide (j < fx.length) = false := decide_eq_false hj2; clear hown hFr hI hA hA2; go_wp2; go_roundw
        case rel => exact ⟨k + 1, by omega, by go_num, by rw [HSU.out, ← HA2.out]; exact HOW.out, O3.out⟩
        case measure => (simp [intOf]; try omega)
   · have hown2 : OwnLf (over w e2).heap.size (over (over w e2) e3) u3 (lvs L ks) := by
      have h := hown; rw [List.take_of_length_le (by omega)] at h; exact h
     have HOW2 := hid hown2; have hd : decide (k < ks.length) = false := decide_eq_false hlt; clear hown hown2 HOW; go_wp2; go_ret
     exact ⟨_, rfl, ovA, Own.mono HOW2.out (by simp)⟩
end
section
open Go.RowKit
attribute [local go_sem] odr cdr
theorem zero_int (w : World) : (zeroValue 3).run Tryz.prog w = .ok (.int .i64 0) w := by kernel_rfl
theorem lakc_any (l : List Lf) (m : List (Lf × Value)) (f : Fr) (hf : f.bits.length ≤ 900000) (a : Option Addr) (cap : Nat) (w : World) (pc mb : Nat) (hs : SlB w a cap (pack f.bits)) (hc : Blk w pc [.map (some mb)] 81) (hm : MapK w mb Lf.v m) (hk : KnM m l) :
    Calls Tryz.prog 35 #[f.v a cap, .pointer (some ⟨pc, 0, none⟩)] w (Ret w (.bool (!told l f))) := by
  have HL := hid (fun (W : World) (hW : ∃ e, W = over w e) => leaf_any f hf a cap W (Sl.ov hs hW)); have hkk := hk (lfO f); have htc := told_count (l := l) (f := f); obtain ⟨x, hx⟩ : ∃ x, lfO f = x := ⟨_, rfl⟩; rw [hx] at HL hkk htc; obtain ⟨n, hn⟩ : ∃ n, l.count x = n := ⟨_, rfl⟩; rw [hn] at hkk htc; obtain ⟨B, hB⟩ : ∃ B, (!told l f) = B := ⟨_, rfl⟩; rw [hB] at htc ⊢; have HV : Hid ((if false then (.tuple #[(kGet m x).getD (.int .i64 0), .bool (kGet m x).isSome] : Value) else (kGet m x).getD (.int .i64 0)) = .int .i64 (n : Nat)) := hid hkk; have HM := hid hm; have HTC := hid htc; have q0 := hc.cell 0 rfl; have ql := hc.lt; obtain ⟨sr, ⟨ch, bi, n5⟩, ct, cl, sm, bs⟩ := f; obtain ⟨pn, hpn⟩ : ∃ n, (pack bs).length = n := ⟨_, rfl⟩; obtain ⟨bn, hbn⟩ : ∃ n, bs.length = n := ⟨_, rfl⟩; obtain ⟨x1, x2, x3, x4⟩ := x; simp only [Fr.v, Lf.v, hpn, hbn] at HL; simp only [Fr.v, hpn, hbn]; clear hs hc hm hk hkk hx hn hB hf hpn hbn htc
  go_enter Tryz.func35, Tryz.ntmps35; go_wp2; refine M2.wrm [2, 3] 6 (by kernel_rfl) (by kernel_rfl) (by decide) ?_; simp only [M2.td]; with_reducible refine M2.mlq 2 (by kernel_rfl) ?_
  simp only [M2.td]; repeat (go_big_quiet_step (fail))
  with_reducible refine wpQuiet_nil ?_
  with_reducible refine M2.mixL_eff (by decide) ?_
  go_wp2_with ((first | (go_at_call 30; (with_reducible refine (HL.out _ ovA).mono ?_); rintro _ _ ⟨⟨e1, rfl⟩, rfl⟩) | (at_lookup; refine wpList_klookup rfl (.tmp 4) (.tmp 6) 81 false rfl 65 3 key_leaf (by kernel_rfl) (.int .i64 0) (zero_int _) mb m rfl (MapK.ov HM.out ovA) ⟨x1, x2, x3, x4⟩ rfl _ HV.out ?_)))
  refine M2.MixQ.mk ovA ?_; with_reducible refine M2.mixL_eff (by decide) ?_
  go_wp2_with ((first | (go_at_call 30; (with_reducible refine (HL.out _ ovA).mono ?_); rintro _ _ ⟨⟨e1, rfl⟩, rfl⟩) | (at_lookup; refine wpList_klookup rfl (.tmp 4) (.tmp 6) 81 false rfl 65 3 key_leaf (by kernel_rfl) (.int .i64 0) (zero_int _) mb m rfl (MapK.ov HM.out ovA) ⟨x1, x2, x3, x4⟩ rfl _ HV.out ?_)))
  refine M2.MixQ.mk ovA ?_; with_reducible refine M2.mlq 2 (by kernel_rfl) ?_
  simp only [M2.td]; repeat (go_big_quiet_step (fail))
  with_reducible refine wpQuiet_nil ?_
  with_reducible refine M2.mln ?_
  with_reducible refine M2.mln ?_
  go_wp2; go_ret
  exact ⟨ovA, by (rw [HTC.out]; rfl)⟩
theorem indexfF_any (xs : List Fx) (hl : xs.length ≤ 1000000) (p : Fr → Bool) (c1 : Value) (a : Option Addr) (cap : Nat) (w : World) (hs : Sl 11 Fx.cs w a cap xs)
    (hp : ∀ (k : Nat) (hk : k < xs.length) W, (∃ e, W = over w e) → Calls Tryz.prog 35 #[xs[k].f.v xs[k].a xs[k].cap, c1] W (Ret W (.bool (p xs[k].f)))) :
    Calls Tryz.prog 34 #[.slice a xs.length cap, .func (.func 35) #[] #[c1]] w (Ret w (.int .i64 (idxG (fun x : Fx => p x.f) xs))) := by
  have HP := hid hp; have HY := hid (fun k hk => idxG_yes (p := fun x : Fx => p x.f) (xs := xs) (k := k) hk); have HN := hid (idxG_no (p := fun x : Fx => p x.f) (xs := xs)); obtain ⟨R, hR⟩ : ∃ R, idxG (fun x : Fx => p x.f) xs = R := ⟨_, rfl⟩; rw [hR] at HN ⊢; simp only [hR] at HY; clear hp hR
  go_enter Tryz.func34, Tryz.ntmps34; go_wp2
  go_loopw [5, 8] (fun _ i wr => ∃ k : Nat, k ≤ xs.length ∧ i = .int .i64 (k : Nat) ∧ (∀ j, j < k → ∀ h : j < xs.length, p xs[j].f = false) ∧ Ov w wr) (fun _ i _ => xs.length - (intOf i).toNat)
  case atStart => exact ⟨0, Nat.zero_le _, rfl, fun j hj => absurd hj (by omega), ovA⟩
  case round =>
   obtain ⟨k, hk, rfl, hbef, hov⟩ := hrel; have O1 : Hid (∃ e, wr = over w e) := hid hov; have HBF := hid hbef; clear hbef; by_cases hlt : k < xs.length
   · obtain ⟨cb, co, rfl, hcb, hcell⟩ := SlF.at_ (Sl.ov hs hov) hlt; have HC := hid (HP.out k hlt); have HYK := hid (HY.out k hlt); have hdl : decide (k < xs.length) = true := decide_eq_true hlt; have HST : Hid (p xs[k].f = false → ∀ j, j < k + 1 → ∀ h : j < xs.length, p xs[j].f = false) := hid (fun hf j hj h => by
      rcases Nat.lt_or_ge j k with h1 | h1
      · exact HBF.out j h1 h
      · obtain rfl : j = k := by omega
        exact hf)
     have HYK2 : Hid (p xs[k].f = true → R = (k : Nat)) := hid (fun ht => HYK.out (fun j hj => HBF.out j hj (by omega)) ht); obtain ⟨x, hx⟩ : ∃ x, xs[k]'hlt = x := ⟨_, rfl⟩; rw [hx] at hcell HC HST HYK2; obtain ⟨B, hB⟩ : ∃ B, p x.f = B := ⟨_, rfl⟩; rw [hB] at HC HST HYK2; obtain ⟨⟨sr, ⟨ch, bi, n5⟩, ct, cl, sm, bs⟩, xa, xc⟩ := x; have z0 := hcell 0 _ rfl; have z1 := hcell 1 _ rfl; have z2 := hcell 2 _ rfl; have z3 := hcell 3 _ rfl; have z4 := hcell 4 _ rfl; have z5 := hcell 5 _ rfl; have z6 := hcell 6 _ rfl; have z7 := hcell 7 _ rfl; have z8 := hcell 8 _ rfl; have z9 := hcell 9 _ rfl; have z10 := hcell 10 _ rfl; rw [Nat.add_zero] at z0; obtain ⟨pn, hpn⟩ : ∃ n, (pack bs).length = n := ⟨_, rfl⟩; obtain ⟨bn, hbn⟩ : ∃ n, bs.length = n := ⟨_, rfl⟩; simp only [Fr.v, hpn, hbn] at HC z9 z10; clear hov HYK hx hB hcell hpn hbn; cases B with
     | true =>
      go_wp2_with (go_at_call 35; (with_reducible refine (HC.out _ (ovB O1.out)).mono ?_); rintro _ _ ⟨⟨e1, rfl⟩, rfl⟩)
      go_ret
      exact ⟨(ovB O1.out), congrArg (fun z => Ending.returned (.int .i64 z)) (HYK2.out (by simp)).symm⟩
     | false =>
      go_wp2_with (go_at_call 35; (with_reducible refine (HC.out _ (ovB O1.out)).mono ?_); rintro _ _ ⟨⟨e1, rfl⟩, rfl⟩)
      go_roundw
      case rel => exact ⟨k + 1, by omega, by go_num, HST.out (by simp), (ovB O1.out)⟩
      case measure => (simp [intOf]; try omega)
   · obtain rfl : k = xs.length := by omega
     have hN : R = -1 := HN.out (fun j h => HBF.out j h h); have HNN := hid hN; clear hov hN; go_wp2; go_ret
     exact ⟨(ovB O1.out), congrArg (fun z => Ending.returned (.int .i64 z)) HNN.out.symm⟩
end
section
open Go.RowKit
attribute [local go_sem] odr cdr
theorem FrsAt.app {base b : Nat} {w w' : World} {v v' : Value} {l xs : List Fx} (h : FrsAt base w v l) (hx : ∀ x ∈ xs, OwnB b w x.bv (pack x.f.bits)) (hb : base ≤ b) (hv : ∀ g, v.ownBlock = some g → g < b) (hc : Chg v.ownBlock.toList w w')
    (ho : OwnF base w' v' (l ++ xs)) (hv' : v'.ownBlock = v.ownBlock ∨ ∃ g, v'.ownBlock = some g ∧ w.heap.size ≤ g) : FrsAt base w' v' (l ++ xs) := by
  have hxa : ∀ x ∈ xs, ∀ g, x.bv.ownBlock = some g → v.ownBlock ≠ some g := fun x hm g hg he => by have := (Own.lt (hx x hm) hg).1; have := hv g he; omega
  have hne : ∀ y ∈ l ++ xs, (∀ g, y.bv.ownBlock = some g → v.ownBlock ≠ some g) ∧ OwnB base w y.bv (pack y.f.bits) := by
   intro y hy; rcases List.mem_append.1 hy with hy | hy
   · exact ⟨h.apart y hy, h.bits y hy⟩
   · exact ⟨hxa y hy, (hx y hy).mono hb⟩
  refine ⟨ho, fun y hy => Own.chg (hne y hy).2 hc (fun g hg hm => (hne y hy).1 g hg (by simpa using hm)), fun y hy g hg => ?_⟩; rcases hv' with hv' | ⟨g', hg', hl'⟩
  · rw [hv']; exact (hne y hy).1 g hg
  · rw [hg']; intro he; have := (Own.lt (hne y hy).2 hg).2; simp at he; omega
structure LakI (w : World) (m : List (Lf × Value)) (wr : World) : Prop where
 mp : MapK wr w.heap.size Lf.v m
 cell : Blk wr (w.heap.size + 1) [.map (some w.heap.size)] 81
 ov : ∃ e, wr = over w e
theorem LakI.on {w : World} {m : List (Lf × Value)} {wr : World} (h : LakI w m wr) (e : World) : LakI w m (over wr e) := ⟨h.mp.ov ⟨e, rfl⟩, Blk.on h.cell e, ov_tr h.ov ⟨e, rfl⟩⟩
theorem lacks_any {base : Nat} {w : World} {b n sz mb : Nat} {L : List Se} (h : BkAt base w b n sz mb L) (hl : L.length ≤ 1000) (hcl : ∀ id, (getS (bkOf L) id).cl.length ≤ 900)
    (hbits : ∀ id, ∀ f ∈ frsB L id, f.bits.length ≤ 900000) (l : List Lf) (hll : l.length ≤ 100000) (a : Option Addr) (cap : Nat) (hs : SlL w a cap l) (hB : (lak L l (srtN (L.map (·.id)))).length ≤ 100000) :
    Calls Tryz.prog 11 #[.pointer (some ⟨b, 0, none⟩), .slice a l.length cap] w (ChsP w (lak L l (srtN (L.map (·.id))))) := by
  have hmk : ∀ W : World, (Instr.makeMap 81 none).run Tryz.prog W = .ok (.map (some W.heap.size)) (W.alloc (.map #[] 0)) := fun W => rfl; have HSer := hid (fun (W : World) (hW : ∃ e, W = over w e) => series_any (bk_ov h hW) (by omega)); have HCh := hid (fun (id : Nat) (W : World) (hW : ∃ e, W = over w e) => chunks_any (bk_ov h hW) id rfl (hcl id)); obtain ⟨ks, hks⟩ : ∃ ks, srtN (L.map (·.id)) = ks := ⟨_, rfl⟩; rw [hks] at HSer hB ⊢; clear h hks
  go_enter Tryz.func11, Tryz.ntmps11; go_wp2
  go_loopw [16] (fun i wr => ∃ (k : Nat) (m : List (Lf × Value)), k ≤ l.length ∧ i = .int .i64 (k : Nat) ∧ KnM m (l.take k) ∧ LakI w m wr) (fun i _ => l.length - (intOf i).toNat)
  case atStart => exact ⟨0, [], Nat.zero_le _, rfl, by rw [List.take_zero]; exact KnM.nil, MapK.ov (MapK.new' (w := w) Lf.v rfl) ovA, (by exact blA), ovA⟩
  case round =>
   obtain ⟨k, m, hk, rfl, hkn, hI⟩ := hrel; have HM := hid hI.mp; have O1 := hid hI.ov; have C1 := hid hI.cell; have c0 := hI.cell.cell 0 rfl; have cl := hI.cell.lt; have cf : ∀ j, wr.frozen? ⟨w.heap.size + 1, j, none⟩ = false := fun j => hI.cell.free j; have ml := hI.mp.lt; by_cases hlt : k < l.length
   · obtain ⟨cb, co, rfl, hcb, q0, q1, q2, q3⟩ := SlL.at_ (Sl.ov hs hI.ov) hlt; have htk := List.take_succ_eq_append_getElem hlt; obtain ⟨x, hx⟩ : ∃ x, l[k]'hlt = x := ⟨_, rfl⟩; rw [hx] at q0 q1 q2 q3 htk; have hg := hkn x; have hp := hkn.put x; rw [← htk] at hp; have hcn : (l.take k).count x ≤ 100000 := by
      have := List.count_le_length (a := x) (l := l.take k); rw [List.length_take] at this; omega
     obtain ⟨n, hn⟩ : ∃ n, (l.take k).count x = n := ⟨_, rfl⟩; rw [hn] at hg hp hcn; have HG : Hid ((kGet m x).getD (.int .i64 0) = .int .i64 (n : Nat)) := hid hg; have HV : Hid ((if false then (.tuple #[(kGet m x).getD (.int .i64 0), .bool (kGet m x).isSome] : Value) else (kGet m x).getD (.int .i64 0)) = .int .i64 (n : Nat)) := hid hg; have HV2 : Hid ((if false then (.tuple #[(kGet (kPut m x (.int .i64 (n : Nat))) x).getD (.int .i64 0), .bool (kGet (kPut m x (.int .i64 (n : Nat))) x).isSome] : Value) else (kGet (kPut m x (.int .i64 (n : Nat))) x).getD (.int .i64 0)) = .int .i64 (n : Nat)) := hid (by rw [kget_put, if_pos rfl]; rfl); have HP := hid hp; have hd : decide (k < l.length) = true := decide_eq_true hlt; obtain ⟨x1, x2, x3, x4⟩ := x; simp only at q0 q1 q2 q3; have hl2 : wr.heap.size ≠ w.heap.size := by omega
     obtain ⟨F, hF⟩ : ∃ F, [w.heap.size] = F := ⟨_, rfl⟩; have hF0 : w.heap.size ∈ F := by rw [← hF]; simp
     have hF1 : w.heap.size + 1 ∉ F := by rw [← hF]; simp
     have hF2 : wr.heap.size ∉ F := by rw [← hF]; simpa using hl2
     clear hx htk hg hp hn hkn hI hF; go_wp2; refine M2.wp_region_tree (fun w' => ∃ m : Mut, w' = chg F _ m) [2, 4, 6] (.q 0 (.q 1 (.e 2 (.q 3 (.e 4 (.q 5 (.e 6 .done .no)) .no)) (.e 4 (.q 5 (.e 2 (.q 3 (.e 6 .done .no)) .no)) .no)))) (by kernel_rfl) (by kernel_rfl) (chg_of (Chg.refl _ _)) ?_; repeat (refine M2.tree_q rfl rfl ?_; go_big_quiet_step (fail); with_reducible refine wpQuiet_nil ?_)
     refine M2.tree_e (k := 2) rfl ?_ ?_
     · go_wp2_with ((first | (at_lookup; refine wpList_klookup rfl (.tmp 20) (.tmp 21) 81 false rfl 65 3 key_leaf (by kernel_rfl) (.int .i64 0) (zero_int _) w.heap.size _ rfl (MapE.map HE.out) ⟨x1, x2, x3, x4⟩ rfl _ HV2.out ?_) | (at_lookup; refine wpList_klookup rfl (.tmp 20) (.tmp 21) 81 false rfl 65 3 key_leaf (by kernel_rfl) (.int .i64 0) (zero_int _) w.heap.size m rfl (MapK.chg (F := []) HM.out (by exact chA) (by simp)) ⟨x1, x2, x3, x4⟩ rfl _ HV.out ?_) | (refine wpList_kentry rfl (.tmp 20) (.tmp 21) 81 rfl 65 3 key_leaf (by kernel_rfl) (.int .i64 0) (zero_int _) w.heap.size m ⟨x1, x2, x3, x4⟩ _ HG.out rfl rfl (MapK.chg (F := []) HM.out (by exact chA) (by simp)) ?_; intro mt st he6; (try rw [cdr] at he6); have HE := hid he6; clear he6) | (refine wpList_kestore rfl (.tmp 20) (.tmp 25) (.tmp 23) 81 rfl w.heap.size m ⟨x1, x2, x3, x4⟩ _ _ (.int .i64 ((n : Nat) + 1 : Int)) rfl rfl (by go_num) HE.out ?_; intro mt7 hm7; (try rw [cdr] at hm7); have HM7 := hid hm7; clear hm7)))
       refine M2.TreeQ.mk (chg_of (by exact chA)) ?_; repeat (refine M2.tree_q rfl rfl ?_; go_big_quiet_step (fail); with_reducible refine wpQuiet_nil ?_)
       refine M2.tree_e1 (k := 4) rfl ?_; go_wp2_with ((first | (at_lookup; refine wpList_klookup rfl (.tmp 20) (.tmp 21) 81 false rfl 65 3 key_leaf (by kernel_rfl) (.int .i64 0) (zero_int _) w.heap.size _ rfl (MapE.map HE.out) ⟨x1, x2, x3, x4⟩ rfl _ HV2.out ?_) | (at_lookup; refine wpList_klookup rfl (.tmp 20) (.tmp 21) 81 false rfl 65 3 key_leaf (by kernel_rfl) (.int .i64 0) (zero_int _) w.heap.size m rfl (MapK.chg (F := []) HM.out (by exact chA) (by simp)) ⟨x1, x2, x3, x4⟩ rfl _ HV.out ?_) | (refine wpList_kentry rfl (.tmp 20) (.tmp 21) 81 rfl 65 3 key_leaf (by kernel_rfl) (.int .i64 0) (zero_int _) w.heap.size m ⟨x1, x2, x3, x4⟩ _ HG.out rfl rfl (MapK.chg (F := []) HM.out (by exact chA) (by simp)) ?_; intro mt st he6; (try rw [cdr] at he6); have HE := hid he6; clear he6) | (refine wpList_kestore rfl (.tmp 20) (.tmp 25) (.tmp 23) 81 rfl w.heap.size m ⟨x1, x2, x3, x4⟩ _ _ (.int .i64 ((n : Nat) + 1 : Int)) rfl rfl (by go_num) HE.out ?_; intro mt7 hm7; (try rw [cdr] at hm7); have HM7 := hid hm7; clear hm7)))
       refine M2.TreeQ.mk (chg_of (by exact chA)) ?_; repeat (refine M2.tree_q rfl rfl ?_; go_big_quiet_step (fail); with_reducible refine wpQuiet_nil ?_)
       refine M2.tree_e1 (k := 6) rfl ?_; go_wp2_with ((first | (at_lookup; refine wpList_klookup rfl (.tmp 20) (.tmp 21) 81 false rfl 65 3 key_leaf (by kernel_rfl) (.int .i64 0) (zero_int _) w.heap.size _ rfl (MapE.map HE.out) ⟨x1, x2, x3, x4⟩ rfl _ HV2.out ?_) | (at_lookup; refine wpList_klookup rfl (.tmp 20) (.tmp 21) 81 false rfl 65 3 key_leaf (by kernel_rfl) (.int .i64 0) (zero_int _) w.heap.size m rfl (MapK.chg (F := []) HM.out (by exact chA) (by simp)) ⟨x1, x2, x3, x4⟩ rfl _ HV.out ?_) | (refine wpList_kentry rfl (.tmp 20) (.tmp 21) 81 rfl 65 3 key_leaf (by kernel_rfl) (.int .i64 0) (zero_int _) w.heap.size m ⟨x1, x2, x3, x4⟩ _ HG.out rfl rfl (MapK.chg (F := []) HM.out (by exact chA) (by simp)) ?_; intro mt st he6; (try rw [cdr] at he6); have HE := hid he6; clear he6) | (refine wpList_kestore rfl (.tmp 20) (.tmp 25) (.tmp 23) 81 rfl w.heap.size m ⟨x1, x2, x3, x4⟩ _ _ (.int .i64 ((n : Nat) + 1 : Int)) rfl rfl (by go_num) HE.out ?_; intro mt7 hm7; (try rw [cdr] at hm7); have HM7 := hid hm7; clear hm7)))
       refine M2.TreeQ.mk (chg_of (by exact chA)) ?_; refine M2.trd ?_; go_wp2; go_roundw
       case rel => exact ⟨k + 1, _, by omega, by go_num, HP.out, HM7.out, (by exact bxA C1.out), Chg.ov (F := [w.heap.size]) O1.out (by exact chA) (by simp)⟩
       case measure => (simp [intOf]; try omega)
     refine M2.tree_e (k := 4) rfl ?_ ?_
     · go_wp2_with ((first | (at_lookup; refine wpList_klookup rfl (.tmp 20) (.tmp 21) 81 false rfl 65 3 key_leaf (by kernel_rfl) (.int .i64 0) (zero_int _) w.heap.size _ rfl (MapE.map HE.out) ⟨x1, x2, x3, x4⟩ rfl _ HV2.out ?_) | (at_lookup; refine wpList_klookup rfl (.tmp 20) (.tmp 21) 81 false rfl 65 3 key_leaf (by kernel_rfl) (.int .i64 0) (zero_int _) w.heap.size m rfl (MapK.chg (F := []) HM.out (by exact chA) (by simp)) ⟨x1, x2, x3, x4⟩ rfl _ HV.out ?_) | (refine wpList_kentry rfl (.tmp 20) (.tmp 21) 81 rfl 65 3 key_leaf (by kernel_rfl) (.int .i64 0) (zero_int _) w.heap.size m ⟨x1, x2, x3, x4⟩ _ HG.out rfl rfl (MapK.chg (F := []) HM.out (by exact chA) (by simp)) ?_; intro mt st he6; (try rw [cdr] at he6); have HE := hid he6; clear he6) | (refine wpList_kestore rfl (.tmp 20) (.tmp 25) (.tmp 23) 81 rfl w.heap.size m ⟨x1, x2, x3, x4⟩ _ _ (.int .i64 ((n : Nat) + 1 : Int)) rfl rfl (by go_num) HE.out ?_; intro mt7 hm7; (try rw [cdr] at hm7); have HM7 := hid hm7; clear hm7)))
       refine M2.TreeQ.mk (chg_of (by exact chA)) ?_; repeat (refine M2.tree_q rfl rfl ?_; go_big_quiet_step (fail); with_reducible refine wpQuiet_nil ?_)
       refine M2.tree_e1 (k := 2) rfl ?_; go_wp2_with ((first | (at_lookup; refine wpList_klookup rfl (.tmp 20) (.tmp 21) 81 false rfl 65 3 key_leaf (by kernel_rfl) (.int .i64 0) (zero_int _) w.heap.size _ rfl (MapE.map HE.out) ⟨x1, x2, x3, x4⟩ rfl _ HV2.out ?_) | (at_lookup; refine wpList_klookup rfl (.tmp 20) (.tmp 21) 81 false rfl 65 3 key_leaf (by kernel_rfl) (.int .i64 0) (zero_int _) w.heap.size m rfl (MapK.chg (F := []) HM.out (by exact chA) (by simp)) ⟨x1, x2, x3, x4⟩ rfl _ HV.out ?_) | (refine wpList_kentry rfl (.tmp 20) (.tmp 21) 81 rfl 65 3 key_leaf (by kernel_rfl) (.int .i64 0) (zero_int _) w.heap.size m ⟨x1, x2, x3, x4⟩ _ HG.out rfl rfl (MapK.chg (F := []) HM.out (by exact chA) (by simp)) ?_; intro mt st he6; (try rw [cdr] at he6); have HE := hid he6; clear he6) | (refine wpList_kestore rfl (.tmp 20) (.tmp 25) (.tmp 23) 81 rfl w.heap.size m ⟨x1, x2, x3, x4⟩ _ _ (.int .i64 ((n : Nat) + 1 : Int)) rfl rfl (by go_num) HE.out ?_; intro mt7 hm7; (try rw [cdr] at hm7); have HM7 := hid hm7; clear hm7)))
       refine M2.TreeQ.mk (chg_of (by exact chA)) ?_; repeat (refine M2.tree_q rfl rfl ?_; go_big_quiet_step (fail); with_reducible refine wpQuiet_nil ?_)
       refine M2.tree_e1 (k := 6) rfl ?_; go_wp2_with ((first | (at_lookup; refine wpList_klookup rfl (.tmp 20) (.tmp 21) 81 false rfl 65 3 key_leaf (by kernel_rfl) (.int .i64 0) (zero_int _) w.heap.size _ rfl (MapE.map HE.out) ⟨x1, x2, x3, x4⟩ rfl _ HV2.out ?_) | (at_lookup; refine wpList_klookup rfl (.tmp 20) (.tmp 21) 81 false rfl 65 3 key_leaf (by kernel_rfl) (.int .i64 0) (zero_int _) w.heap.size m rfl (MapK.chg (F := []) HM.out (by exact chA) (by simp)) ⟨x1, x2, x3, x4⟩ rfl _ HV.out ?_) | (refine wpList_kentry rfl (.tmp 20) (.tmp 21) 81 rfl 65 3 key_leaf (by kernel_rfl) (.int .i64 0) (zero_int _) w.heap.size m ⟨x1, x2, x3, x4⟩ _ HG.out rfl rfl (MapK.chg (F := []) HM.out (by exact chA) (by simp)) ?_; intro mt st he6; (try rw [cdr] at he6); have HE := hid he6; clear he6) | (refine wpList_kestore rfl (.tmp 20) (.tmp 25) (.tmp 23) 81 rfl w.heap.size m ⟨x1, x2, x3, x4⟩ _ _ (.int .i64 ((n : Nat) + 1 : Int)) rfl rfl (by go_num) HE.out ?_; intro mt7 hm7; (try rw [cdr] at hm7); have HM7 := hid hm7; clear hm7)))
       refine M2.TreeQ.mk (chg_of (by exact chA)) ?_; refine M2.trd ?_; go_wp2; go_roundw
       case rel => exact ⟨k + 1, _, by omega, by go_num, HP.out, HM7.out, (by exact bxA C1.out), Chg.ov (F := [w.heap.size]) O1.out (by exact chA) (by simp)⟩
       case measure => (simp [intOf]; try omega)
     exact M2.tree_no
   · obtain rfl : k = l.length := by omega
     rw [List.take_length] at hkn; refine gen_w ?_; intro W1 hW1; subst hW1; have HKN := hid hkn; have hd : decide (l.length < l.length) = false := decide_eq_false (by omega); clear hkn hI; go_wp2_with (go_at_call 28; (with_reducible refine (HSer.out _ (by exact (ovB O1.out))).mono ?_); rintro _ _ ⟨⟨e2, rfl⟩, v2, rfl, o2⟩; obtain ⟨a2, c2, rfl, s2⟩ := Own.slice wcs_len o2; have S2 := hid s2; clear o2 s2)
     refine gen_w ?_; intro W2 hW2; have O2 : Hid (∃ e, W2 = over w e) := hid (by rw [hW2]; exact (ovB O1.out)); have S3 : Hid (SlW W2 a2 c2 ks) := hid (by rw [hW2]; exact S2.out); have M2_ : Hid (MapK W2 w.heap.size Lf.v m) := hid (by rw [hW2]; exact MapK.ov HM.out ovA); have C2_ : Hid (Blk W2 (w.heap.size + 1) [.map (some w.heap.size)] 81) := hid (by rw [hW2]; exact (by exact bxA C1.out)); have hww : w.heap.size ≤ W2.heap.size := by obtain ⟨e, he⟩ := O2.out; rw [he]; simp
     clear hW2 S2 HM C1 O1 c0 cl cf ml HSer hmk
     go_loopw [8, 30] (fun v i wr => ∃ (k : Nat) (fx : List Fx), k ≤ ks.length ∧ i = .int .i64 (k : Nat) ∧ fx.map Fx.f = lak L l (ks.take k) ∧ FrsAt W2.heap.size wr v fx ∧ Ov W2 wr) (fun _ i _ => ks.length - (intOf i).toNat)
     case atStart => exact ⟨0, [], Nat.zero_le _, rfl, rfl, FrsAt.nil _ _, ovA⟩
     case round =>
      obtain ⟨k, fx, hk, rfl, hmap, hfr, hov⟩ := hrel; have O3 : Hid (∃ e, wr = over W2 e) := hid hov; have HF := hid hfr; have HMAP := hid hmap; obtain ⟨av, cv, rfl, _⟩ := Own.slice Fx.cs_len hfr.row; have hmk := len_max S3.out; have hfl : fx.length ≤ 100000 := by
       have h1 := congrArg List.length hmap; rw [List.length_map] at h1; have := lak_take L l ks k; omega
      clear hfr hmap hov; by_cases hlt : k < ks.length
      · obtain ⟨sb, so, rfl, hsb, q0⟩ := SlW.at1 (Sl.ov S3.out O3.out) hlt; have hsuc := lak_succ L l hlt; have hle := lak_take L l ks (k + 1); obtain ⟨id, hid0⟩ : ∃ id, ks[k]'hlt = id := ⟨_, rfl⟩; rw [hid0] at q0 hsuc; have hbt := hbits id; have HC := hid (HCh.out id); have hfc : Hid ((frsB L id).length ≤ 901) := hid (Nat.le_trans (frs_len _ _ _) (by have := hcl id; omega)); obtain ⟨fs, hfs⟩ : ∃ fs, frsB L id = fs := ⟨_, rfl⟩; have HC2 : Hid (∀ W, (∃ e, W = over w e) → Calls Tryz.prog 29 #[.pointer (some ⟨b, 0, none⟩), .int .u32 (id : Nat)] W (ChsP W fs)) := hid (by rw [← hfs]; exact HC.out); have hlo : lakO L l id = fs.dropWhile (told l) := by unfold lakO; rw [hfs]
        rw [hlo] at hsuc; rw [hsuc, List.length_append] at hle; rw [hfs] at hbt; have HSU := hid hsuc; have hd2 : decide (k < ks.length) = true := decide_eq_true hlt; rw [hfs] at hfc; clear hid0 hfs hlo hsuc HC; go_wp2_with (go_at_call 29; (with_reducible refine (HC2.out _ (by exact ov_tr O2.out (ovB O3.out))).mono ?_); rintro _ w8 ⟨hov8, v8, fy, rfl, hm8, hf8⟩; obtain ⟨a8, c8, rfl, s8⟩ := Own.slice Fx.cs_len hf8.row; have O8 : Hid (∃ e, w8 = over wr e) := hid (by simpa using hov8); have S8 := hid s8; have HF8 := hid hf8; have HM8 := hid hm8; clear hov8 hm8 hf8 s8)
        have HFL : Hid (fy.map Fx.f = fs) := hid HM8.out; have hfyl : fy.length ≤ 901 := by
         have h1 := congrArg List.length HFL.out; rw [List.length_map] at h1; have := hfc.out; omega
        have HIX : Hid (∀ W, (∃ e, W = over w8 e) → Calls Tryz.prog 34 #[.slice a8 fy.length c8, .func (.func 35) #[] #[.pointer (some ⟨w.heap.size + 1, 0, none⟩)]] W (Ret W (.int .i64 (idxG (fun x : Fx => !told l x.f) fy)))) := hid (fun W hW => by
         refine indexfF_any fy (by omega) (fun f => !told l f) _ a8 c8 W (Sl.ov S8.out hW) (fun j hj W' hW' => ?_); have hmem : fy[j]'hj ∈ fy := List.getElem_mem hj; have hbq := HF8.out.bits _ hmem; have hfb := hbt (fy[j]'hj).f (by rw [← HFL.out]; exact List.mem_map.2 ⟨_, hmem, rfl⟩); have hov := ov_tr O8.out (ov_tr hW hW'); obtain ⟨x, hx⟩ : ∃ x, fy[j]'hj = x := ⟨_, rfl⟩; rw [hx] at hbq hfb ⊢; obtain ⟨xf, xa, xc⟩ := x; obtain ⟨ax, cx, hxe, hxs⟩ := Own.slice (sz := 1) (cells := bcs) (fun _ => rfl) hbq; simp only [Value.slice.injEq] at hxe; obtain ⟨rfl, _, rfl⟩ := hxe; exact lakc_any l m xf hfb xa xc W' (w.heap.size + 1) w.heap.size (Sl.ov hxs (ov_tr hW hW')) (by obtain ⟨e, he⟩ := ov_tr O3.out hov; rw [he]; exact Blk.on C2_.out e) (MapK.ov M2_.out (ov_tr O3.out hov)) HKN.out)
        have hdm : fs.dropWhile (told l) = (fy.dropWhile (fun x : Fx => told l x.f)).map Fx.f := by rw [← HFL.out, List.dropWhile_map]; rfl
        rw [hdm] at HSU hle; rw [List.length_map] at hle; rcases idxG_drop (fun x : Fx => told l x.f) fy with ⟨hr1, hr2⟩ | ⟨k0, hk0, hr1, hr2⟩
        · rw [hr1] at HIX; rw [hr2] at HSU; clear hr1 hr2 hdm hle hbt; go_wp2_with (go_at_call 34; (with_reducible refine (HIX.out _ ovA).mono ?_); rintro _ _ ⟨⟨e9, rfl⟩, rfl⟩)
          go_roundw
          case rel => exact ⟨k + 1, fx, by omega, by go_num, by rw [HSU.out, List.map_nil, List.append_nil]; exact HMAP.out, HF.out.ov (by exact (ovB O8.out)), by exact ov_tr O3.out (ovB O8.out)⟩
          case measure => (simp [intOf]; try omega)
        · rw [hr1] at HIX; rw [hr2] at HSU hle; obtain ⟨b8, o8, rfl, hb8, _⟩ := SlF.at_ S8.out hk0; have hsp : fy.take k0 ++ fy.drop k0 = fy := List.take_append_drop _ _; have hdr := Sl.dropF (xs := fy.take k0) (ys := fy.drop k0) (by rw [hsp]; exact S8.out); have htl : (fy.take k0).length = k0 := by rw [List.length_take]; omega
          have hdl : (fy.drop k0).length = fy.length - k0 := List.length_drop; have hc8 := S8.out.le; have hm8 := S8.out.max; rw [htl, if_neg (by omega), Option.map_some, Go.WideShapes.add_plain] at hdr; obtain ⟨xs, hxs⟩ : ∃ xs, fy.drop k0 = xs := ⟨_, rfl⟩; have hxb : ∀ x ∈ xs, OwnB wr.heap.size w8 x.bv (pack x.f.bits) := fun x hx => HF8.out.bits x (by rw [← hxs] at hx; exact List.mem_of_mem_drop hx); rw [hxs] at hdr hdl HSU hle; have HXB := hid hxb; have HDR := hid hdr; have HDL := hid hdl; clear hr1 hr2 hdm hbt hdr hxs hdl hsp htl hxb
          go_wp2_with (first
            | (go_at_call 34; (with_reducible refine (HIX.out _ ovA).mono ?_); rintro _ _ ⟨⟨e9, rfl⟩, rfl⟩)
            | (at_builtin
               refine gen_w ?_; intro W3 hW3; have C3 : Hid (∃ e, W3 = over w8 e) := hid (by rw [hW3]; exact ovA); have C13 : Hid (∃ e, W3 = over wr e) := hid (ov_tr O8.out C3.out); have S3' : Hid (Sl 11 Fx.cs W3 (some ⟨b8, o8 + k0 * 11, none⟩) (c8 - k0) xs) := hid (Sl.ov HDR.out C3.out); have HF3 := hid (HF.out.ov C13.out); have hav : ∀ g, (Value.slice av fx.length cv).ownBlock = some g → g < wr.heap.size := fun g hg => (Own.lt HF.out.row hg).2; have hwr2 : W2.heap.size ≤ wr.heap.size := by obtain ⟨z, hz⟩ := O3.out; rw [hz]; simp
               have hbw3 : W2.heap.size ≤ W3.heap.size := by obtain ⟨z, hz⟩ := C13.out; rw [hz]; simp; omega
               have HB3 : Hid (∀ x ∈ xs, OwnB wr.heap.size W3 x.bv (pack x.f.bits)) := hid (fun x hx => by obtain ⟨z, hz⟩ := C3.out; rw [hz]; exact (HXB.out x hx).over z); refine wpList_append' frame_elem Fx.cs_len Fx.cs_one rfl (.tmp 42) (.tmp 45) rfl (base := W2.heap.size) (v := .slice av fx.length cv) (ys := fx) (xs := xs) HF3.out.row rfl (by rw [HDL.out]; rfl) hbw3 S3'.out (by rw [HDL.out]; unfold maxLen; omega) (by rw [HDL.out]; omega) ?_; intro v5 m5 ho5 hv5; refine gen_w ?_; intro W5 hW5; have hc5 : Chg (Value.slice av fx.length cv).ownBlock.toList W3 W5 := by rw [hW5]; exact chg_chg _ _ _
               rw [← hW5] at ho5; have HF5 := hid (FrsAt.app HF3.out HB3.out hwr2 hav hc5 ho5 hv5); have C15 : Hid (∃ e, W5 = over W2 e) := hid (Chg.ov (ov_tr O3.out C13.out) hc5 (fun g hg => (Own.lt HF3.out.row (by simpa using hg)).1)); clear hW3 hW5 hc5 ho5 hv5 hav))
          go_roundw
          case rel => exact ⟨k + 1, fx ++ xs, by omega, by go_num, by rw [HSU.out, List.map_append, HMAP.out], HF5.out, C15.out⟩
          case measure => (simp [intOf]; try omega)
      · obtain rfl : k = ks.length := by omega
        have hm := HMAP.out; rw [List.take_length] at hm; have HM9 := hid hm; have hd2 : decide (ks.length < ks.length) = false := decide_eq_false (by omega); clear hm; go_wp2; go_ret
        exact ⟨by exact ov_tr O2.out (ovB O3.out), _, fx, rfl, HM9.out, FrsAt.mono HF.out hww⟩
end
end Go.Proofs.YtnffcckhdedhpaaGreatDoor
