import Derived.Test.YtnffcckhdedhpaaGreatDoorCut
import Derived.Test.YtnffcckhdedhpaaGreatDoorHB
namespace Go.Proofs.YtnffcckhdedhpaaGreatDoor
set_option linter.unusedVariables false
set_option linter.unusedSimpArgs false
set_option maxRecDepth 100000
set_option maxHeartbeats 4000000
open Go.RowKit
attribute [local go_sem] odr cdr
structure Br where
 a : Option Addr
 c : Nat
 bs : List Nat
 N : Int
def Br.cs (x : Br) : List Value := [.slice x.a x.bs.length x.c, .int .i64 x.N]
theorem Br.cs_len (x : Br) : x.cs.length = 2 := rfl
structure BrOk (w : World) (x : Br) : Prop where
 s : SlB w x.a x.c x.bs
 lt : ∀ b ∈ x.bs, b < 256
 len : x.bs.length ≤ 1000000
 n : -9223372036854775808 ≤ x.N ∧ x.N ≤ 9223372036854775807
theorem BrOk.ov {w W : World} {x : Br} (h : BrOk w x) (hW : ∃ e, W = over w e) : BrOk W x := ⟨Sl.ov h.s hW, h.lt, h.len, h.n⟩
theorem SlJ.at_ {w : World} {a : Option Addr} {cap : Nat} {xs : List Br} (h : Sl 2 Br.cs w a cap xs) {k : Nat} (hk : k < xs.length) :
    ∃ b off, a = some ⟨b, off, none⟩ ∧ b < w.heap.size ∧ w.cell? ⟨b, off + k * 2, none⟩ = some (.slice xs[k].a xs[k].bs.length xs[k].c) ∧ w.cell? ⟨b, off + k * 2 + 1, none⟩ = some (.int .i64 xs[k].N) := by
  obtain ⟨b, off, rfl, hb, hcell⟩ := h.rec_ k xs[k] (List.getElem?_eq_getElem hk); exact ⟨b, off, rfl, hb, hcell 0 _ rfl, hcell 1 _ rfl⟩
def Fits (xs : List Br) (ls : List (List Bool)) : Prop := ls.length ≤ xs.length ∧ ∀ j, (h : j < ls.length) → (h2 : j < xs.length) → xs[j].bs = pack ls[j] ∧ xs[j].N = (ls[j].length : Nat)
theorem Fits.snoc {xs : List Br} {ls : List (List Bool)} (h : Fits xs ls) (hk : ls.length < xs.length) {l : List Bool} (h1 : xs[ls.length].bs = pack l) (h2 : xs[ls.length].N = (l.length : Nat)) : Fits xs (ls ++ [l]) := by
 refine ⟨by simp; omega, fun j hj hj2 => ?_⟩; rcases Nat.lt_or_ge j ls.length with h3 | h3
 · rw [List.getElem_append_left h3]; exact h.2 j h3 hj2
 · obtain rfl : j = ls.length := by simp at hj; omega
   simp only [List.getElem_concat_length]; exact ⟨h1, h2⟩
def JoinPost (w : World) (xs : List Br) (en : Ending) (w' : World) : Prop :=
 (∃ x ∈ xs, soundB x.bs x.N = false) ∧ (en = .returned (.tuple #[.agg #[.slice none 0 0, .int .i64 0], .int .u16 11]) ∧ ∃ e, w' = over w e) ∨
 ∃ ls, ls.length = xs.length ∧ Fits xs ls ∧ PutPost w ls.flatten en w'
def HasWx (W1 : World) (p px : Nat) (cs : List Value) (L : List Bool) (w : World) : Prop := ∃ e F, w = over W1 e ∧ WrAt W1.heap.size w p L F ∧ px ∉ F ∧ Blk w px cs 49
theorem HasWx.mk_ {W1 w : World} {p px : Nat} {cs : List Value} {L : List Bool} (h : HasWr W1 p L w) (hp : px = w.heap.size) : HasWx W1 p px cs L (w.alloc (.cells cs.toArray 49)) := by
 obtain ⟨e, F, rfl, hw⟩ := h; obtain ⟨e', he⟩ : ∃ e', (over W1 e).alloc (.cells cs.toArray 49) = over W1 e' := ovA; refine ⟨e', F, he, hw.chg ((Chg.refl [] _).alloc _) (fun _ _ hm => by cases hm), fun hm => ?_, Blk.new' hp⟩; have := (hw.lt px hm).2; omega
theorem HasWx.on {W1 w : World} {p px : Nat} {cs : List Value} {L : List Bool} (h : HasWx W1 p px cs L w) (x : World) : HasWx W1 p px cs L (over w x) := by
 obtain ⟨e, F, rfl, hw, hm, hb⟩ := h; obtain ⟨e', he⟩ : ∃ e', over (over W1 e) x = over W1 e' := ovA; exact ⟨e', F, he, hw.chg ((Chg.refl [] _).on x) (fun _ _ hm => by cases hm), hm, Blk.on hb x⟩
theorem HasWx.dr {W1 w : World} {p px : Nat} {cs : List Value} {L : List Bool} (h : HasWx W1 p px cs L w) : HasWx W1 p px cs L w.drew := by
 obtain ⟨e, F, rfl, hw, hm, hb⟩ := h; obtain ⟨e', he⟩ : ∃ e', (over W1 e).drew = over W1 e' := ovA; exact ⟨e', F, he, hw.chg (Chg.refl [] _).drew (fun _ _ hm => by cases hm), hm, Blk.drew hb⟩
theorem HasWx.wr {W1 w : World} {p px : Nat} {cs : List Value} {L : List Bool} (h : HasWx W1 p px cs L w) : HasWr W1 p L w := by
 obtain ⟨e, F, h1, h2, _⟩ := h; exact ⟨e, F, h1, h2⟩
theorem lay_x {W1 w : World} {p px : Nat} {cs : List Value} {L : List Bool} (h : HasWx W1 p px cs L w) (hl : L.length ≤ 1000000) (b n : Nat) (hb : b < 256) (hn : n ≤ 8) :
    Calls Tryz.prog 99 #[.pointer (some ⟨p, 0, none⟩), .int .u8 (b : Nat), .int .i64 (n : Nat)] w (fun en w' => en = .returned (.tuple #[]) ∧ HasWx W1 p px cs (L ++ hi b n) w') := by
  obtain ⟨e, F, rfl, hw, hm, hk⟩ := h; refine (lay_any hw hl b n hb hn (by simp)).mono fun en w' hd => ?_; obtain ⟨h1, m, F', rfl, h3, h4⟩ := hd; obtain ⟨e', he⟩ := ex_chg (⟨e, rfl⟩ : ∃ e', over W1 e = over W1 e') m (fun i hi => (hw.lt i hi).1); refine ⟨h1, e', F', he, h3, fun h5 => ?_, Blk.chg hk (chg_chg _ _ _) hm⟩; rcases h4 px h5 with h6 | h6
  · exact hm h6
  · have := hk.lt; omega
theorem take_oct {l : List Bool} {k m : Nat} (h : k + m ≤ l.length) (hm : m ≤ 8) : l.take k ++ hi (oct fun j => l.getD (k + j) false) m = l.take (k + m) := by
 have := cut_more (l := l) (i := 0) (k := k) (m := m) (by omega) hm; rw [Nat.zero_add, List.drop_zero] at this; exact this
theorem join_any (xs : List Br) (hl : xs.length ≤ 1000) (hb : ∀ ls, Fits xs ls → ls.flatten.length ≤ 900000) (a : Option Addr) (cap : Nat) (w : World) (hs : Sl 2 Br.cs w a cap xs) (hx : ∀ x ∈ xs, BrOk w x) :
    Calls Tryz.prog 73 #[.slice a xs.length cap] w (JoinPost w xs) := by
  have HX := hid hx; have HB := hid hb; clear hx hb
  go_enter Tryz.func73, Tryz.ntmps73; go_wp2; refine gen_w ?_; intro W0 hW0; obtain ⟨W1, hW1⟩ : ∃ W1, W1 = w.alloc (.cells #[.slice none 0 0, .int .i64 0] 49) := ⟨_, rfl⟩; have O1 : Hid (∃ e, W1 = over w e) := hid (by rw [hW1]; exact ovA); have B2 : Hid (Blk W1 w.heap.size [.slice none 0 0, .int .i64 0] 49) := hid (by rw [hW1]; exact Blk.new' rfl); have hp : w.heap.size + 1 = W1.heap.size := by rw [hW1]; simp
  have HW0 : Hid (HasWr W1 W1.heap.size [] W0) := hid (by
   obtain ⟨e0, he0⟩ : ∃ e, W0 = over W1 e := by rw [hW0, hW1]; exact ovA
   exact ⟨e0, _, he0, .slice none 0 0, by rw [hW0, ← hp]; exact Blk.new' (by simp), Own.nil _, Nat.le_refl _, by simp [Value.ownBlock], rfl⟩)
  rw [hp]; have hpw : w.heap.size < W1.heap.size := by omega
  clear hW0 hW1 hp; obtain ⟨p, hpp⟩ : ∃ p, W1.heap.size = p := ⟨_, rfl⟩; rw [hpp] at HW0 ⊢; have HPP := hid hpp; clear hpp
  go_loopw [6, 7, 12] (fun _ _ i wr => ∃ ls : List (List Bool), ls.length ≤ xs.length ∧ i = .int .i64 (ls.length : Nat) ∧ Fits xs ls ∧ Hid (HasWr W1 p ls.flatten wr)) (fun _ _ i _ => xs.length - (intOf i).toNat)
  case atStart => exact ⟨[], Nat.zero_le _, rfl, ⟨Nat.zero_le _, fun j h => by simp at h⟩, HW0⟩
  case round =>
   obtain ⟨ls, hk, rfl, hF, HR⟩ := hrel; have HFt := hid hF; clear HW0 hF; obtain ⟨k, hkk⟩ : ∃ k, ls.length = k := ⟨_, rfl⟩; rw [hkk] at hk ⊢; by_cases hlt : k < xs.length
   · obtain ⟨bl, off, rfl, hbl, x0, x1⟩ := SlJ.at_ hs hlt; have hok := HX.out _ (List.getElem_mem hlt); obtain ⟨x, hxk⟩ : ∃ x, xs[k] = x := ⟨_, rfl⟩; rw [hxk] at x0 x1 hok; have HXK := hid hxk; have HKK := hid hkk; have HOK := hid hok; have OR : Hid (∃ e, wr = over w e) := hid (by obtain ⟨e, F, he, _⟩ := HR.out; rw [he]; obtain ⟨e', he'⟩ := O1.out; rw [he']; exact ovA); have OR1 : Hid (∃ e, wr = over W1 e) := hid (by obtain ⟨e, F, he, _⟩ := HR.out; exact ⟨e, he⟩); have y0 : wr.cell? ⟨bl, off + k * 2, none⟩ = some (.slice x.a x.bs.length x.c) := by obtain ⟨e, he⟩ := OR.out; rw [he, cell_over _ _ _ _ hbl]; exact x0
     have y1 : wr.cell? ⟨bl, off + k * 2 + 1, none⟩ = some (.int .i64 x.N) := by obtain ⟨e, he⟩ := OR.out; rw [he, cell_over _ _ _ _ hbl]; exact x1
     have hbr : bl < wr.heap.size := by obtain ⟨e, he⟩ := OR.out; rw [he]; simp; omega
     have HS := hid (fun W hW => sound_any x.bs hok.lt hok.len x.N hok.n x.a x.c W hW); have S0 := hid (Sl.ov hok.s OR.out); clear hok hxk hkk x0 x1; obtain ⟨xa, xc, xb, xN⟩ := x; simp only at *; cases hso : soundB xb xN with
     | false =>
      rw [hso] at HS; have HSO := hid hso; clear hso; have G2 : Hid (Blk wr w.heap.size [.slice none 0 0, .int .i64 0] 49) := hid (by obtain ⟨e, he⟩ := OR1.out; rw [he]; exact Blk.on B2.out e); have g20 := G2.out.cell 0 rfl; have g21 := G2.out.cell 1 rfl; have gf : ∀ j, wr.frozen? ⟨w.heap.size, j, none⟩ = false := fun j => G2.out.free j; have gl := G2.out.lt; go_wp2_with (go_at_call 90; (with_reducible refine (HS.out _ (by exact slA S0.out)).mono ?_); rintro _ _ ⟨⟨e1, rfl⟩, rfl⟩)
      (try simp only [Exit.inBlock, Exit.then])
      refine bodyPost_ret (v := ?rv90) ?rh90 rfl ?rp90
      case rh90 => (simp only [results, show Tryz.f73.results = #[.cell 2 49, .tmp 3] from rfl]; go_simp; rfl)
      exact .inl ⟨⟨⟨xa, xc, xb, xN⟩, by rw [← HXK.out]; exact List.getElem_mem hlt, HSO.out⟩, rfl, (ovB OR.out)⟩
     | true =>
      rw [hso] at HS; obtain ⟨l, hbs, hN⟩ := sound_list HOK.out.lt hso; simp only at hbs hN; subst hbs hN; clear hso; have HF2 := hid (HFt.out.snoc (by rw [HKK.out]; exact hlt) (l := l) (by simp only [HKK.out]; rw [HXK.out]) (by simp only [HKK.out]; rw [HXK.out])); have hfl := HB.out _ HF2.out; have hll : l.length ≤ 900000 := by rw [List.flatten_append, List.length_append] at hfl; simp at hfl; omega
      have hpre : ls.flatten.length ≤ 900000 := HB.out _ HFt.out; have hsum : ls.flatten.length + l.length ≤ 900000 := by rw [List.flatten_append, List.length_append] at hfl; simpa using hfl
      have hA := hid (fun k hk W hW => at_any l k hk (by omega) xa xc W hW); go_wp2_with (go_at_call 90; (with_reducible refine (HS.out _ (by exact slA S0.out)).mono ?_); rintro _ _ ⟨⟨e1, rfl⟩, rfl⟩)
      refine gen_w ?_; intro W3 hW3; have HX3 : Hid (HasWx W1 p wr.heap.size [.slice xa (pack l).length xc, .int .i64 (l.length : Nat)] ls.flatten W3) := hid (by rw [hW3]; exact (HasWx.mk_ HR.out rfl).on _); obtain ⟨px, hpx⟩ : ∃ px, px = wr.heap.size := ⟨_, rfl⟩; rw [← hpx] at HX3 ⊢; clear hW3 hpx HS y0 y1 hbr HR hfl
      go_loopw [7] (fun f wx => ∃ q : Nat, f = .int .i64 ((8 * q : Nat) : Int) ∧ 8 * q ≤ l.length + 8 ∧ Hid (HasWx W1 p px [.slice xa (pack l).length xc, .int .i64 (l.length : Nat)] (ls.flatten ++ l.take (8 * q)) wx)) (fun f _ => l.length + 8 - (intOf f).toNat)
      case atStart => exact ⟨0, rfl, by omega, by simpa using HX3⟩
      case round =>
       obtain ⟨q, rfl, hq, HQ⟩ := hrel; clear HX3; obtain ⟨I, hI⟩ : ∃ I, 8 * q = I := ⟨_, rfl⟩; rw [hI] at HQ hq ⊢; have HI := hid hI; clear hI; have hbx : Blk wr px [.slice xa (pack l).length xc, .int .i64 (l.length : Nat)] 49 := by obtain ⟨e, F, _, _, _, h⟩ := HQ.out; exact h
       have O4 : Hid (∃ e, wr = over W1 e) := hid (by obtain ⟨e, F, he, _⟩ := HQ.out; exact ⟨e, he⟩); have x0 := hbx.cell 0 rfl; have x1 := hbx.cell 1 rfl; have xl := hbx.lt; clear hbx; by_cases hIl : I < l.length
       · obtain ⟨m, hm⟩ : ∃ m, min (l.length - I) 8 = m := ⟨_, rfl⟩; have hmi : min ((l.length : Int) - (I : Int)) 8 = (m : Int) := by omega
         have hm8 : m ≤ 8 := by omega
         have hA' := hid (hA.out I hIl); have htk := take_oct (l := l) (k := I) (m := m) (by omega) hm8; have htk2 : l.take (I + m) = l.take (I + 8) := by
          rcases Nat.lt_or_ge m 8 with h | h
          · rw [List.take_of_length_le (by omega), List.take_of_length_le (by omega)]
          · rw [show m = 8 by omega]
         rw [htk2] at htk; obtain ⟨o, ho⟩ : ∃ o, (oct fun j => l.getD (I + j) false) = o := ⟨_, rfl⟩; have ho8 : o < 256 := by rw [← ho]; exact oct_lt _
         rw [ho] at htk hA'; have HTK := hid htk; have HLay := hid (fun W (hW : HasWx W1 p px [.slice xa (pack l).length xc, .int .i64 (l.length : Nat)] (ls.flatten ++ l.take I) W) => lay_x hW (by rw [List.length_append, List.length_take]; omega) o m ho8 hm8); have HS4 : Hid (SlB wr xa xc (pack l)) := hid (by
          obtain ⟨e, he⟩ := O4.out; obtain ⟨e', he'⟩ := O1.out; have hh : ∃ e, wr = over w e := by rw [he, he']; exact ovA
          exact Sl.ov HOK.out.s hh)
         clear ho htk htk2; go_wp2; refine M2.wrm [3, 9] 9 (by kernel_rfl) (by kernel_rfl) (by decide) ?_; simp only [M2.td]; with_reducible refine M2.mlq 3 (by kernel_rfl) ?_
         simp only [M2.td]; repeat (go_big_quiet_step (fail))
         with_reducible refine wpQuiet_nil ?_
         with_reducible refine M2.mixL_eff (by decide) ?_
         go_wp2_with ((go_at_call 100; (with_reducible refine (hA'.out _ (by exact slA HS4.out)).mono ?_); rintro _ _ ⟨⟨e4, rfl⟩, rfl⟩))
         refine M2.MixQ.mk ovA ?_; with_reducible refine M2.mlq 5 (by kernel_rfl) ?_
         simp only [M2.td]; repeat (go_big_quiet_step (fail))
         with_reducible refine wpQuiet_nil ?_
         with_reducible refine M2.mln ?_
         with_reducible refine M2.mixL_eff (by decide) ?_
         go_wp2_with ((go_at_call 99; (with_reducible refine (HLay.out _ (by first | exact (HQ.out.dr).on _ | exact HQ.out.on _ | exact (HQ.out.on _).dr | exact HQ.out.dr)).mono ?_); rintro _ w5 ⟨rfl, hw5⟩; have HW5 := hid hw5; clear hw5))
         refine M2.MixQ.mk trivial ?_; with_reducible refine M2.mln ?_
         go_wp2; go_roundw
         case rel => exact ⟨q + 1, by have := HI.out; go_num, by have := HI.out; omega, by have := HI.out; have h := HW5; rw [List.append_assoc, HTK.out] at h; rw [show 8 * (q + 1) = I + 8 by omega]; exact h⟩
         case measure => (simp [intOf]; try omega)
       · rw [List.take_of_length_le (by omega)] at HQ; go_wp2; go_roundw
         case rel => exact ⟨ls ++ [l], by rw [List.length_append, List.length_singleton, HKK.out]; omega, by rw [List.length_append, List.length_singleton, HKK.out]; go_num, HF2.out, by rw [List.flatten_append]; simp only [List.flatten_cons, List.flatten_nil, List.append_nil]; exact hid HQ.out.wr⟩
         case measure => (simp [intOf]; try omega)
   · obtain rfl : k = xs.length := by omega
     have HKK := hid hkk; obtain ⟨LL, hLL⟩ : ∃ LL, ls.flatten = LL := ⟨_, rfl⟩; rw [hLL] at HR; have HLL := hid hLL; obtain ⟨e5, a5, c5, rfl, hp1, hp2, q0, q1, ho⟩ := HR.out.open_; have g20 := B2.out.cell 0 rfl; have g21 := B2.out.cell 1 rfl; have gf : ∀ j, W1.frozen? ⟨w.heap.size, j, none⟩ = false := fun j => B2.out.free j; have HO := hid ho; clear hLL hkk ho; go_wp2
     (try simp only [Exit.inBlock, Exit.then])
     refine bodyPost_ret (v := ?rv91) ?rh91 rfl ?rp91
     case rh91 => (simp only [results, show Tryz.f73.results = #[.cell 2 49, .tmp 3] from rfl]; go_simp; rfl)
     refine .inr ⟨ls, HKK.out, HFt.out, a5, c5, by rw [HLL.out], (ovB O1.out), ?_⟩; rw [HLL.out]; exact Own.mono (Own.ovw HO.out (by simp) (Nat.le_refl _)) (by omega)
end Go.Proofs.YtnffcckhdedhpaaGreatDoor
