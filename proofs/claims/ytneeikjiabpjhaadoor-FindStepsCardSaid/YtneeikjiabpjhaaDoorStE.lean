/- Two structures of numbers: are they the same? -/
import Derived.Test.YtneeikjiabpjhaaDoorHB
namespace Go.Proofs.YtneeikjiabpjhaaDoor
set_option linter.unusedVariables false
set_option linter.unusedSimpArgs false
open Go.RowKit
theorem smp_eqD (d : Nat) (w : World) (a b a' b' : Int) : (Op.equalIn (d + 1 + 1) 39 (.agg #[.int .i64 a, .int .u64 b]) (.agg #[.int .i64 a', .int .u64 b'])).run Tryd.prog w = .ok (a == a' && b == b') w := by
  rw [run_equalIn_struct w (d + 1) 39 _ _ (by kernel_rfl) (by kernel_rfl)]
  have hf : (Tryd.prog.fieldsOf 39).toList.length = 2 := by kernel_rfl
  obtain ⟨f1, f2, hl⟩ : ∃ f1 f2, (Tryd.prog.fieldsOf 39).toList = [f1, f2] := by
    match h : (Tryd.prog.fieldsOf 39).toList, hf with
    | [x, y], _ => exact ⟨x, y, rfl⟩
  have hx : (Tryd.prog.fieldsOf 39).toList.map (fun f => (f.name, f.type, f.offset)) = [("T", 2, 0), ("V", 37, 1)] := by kernel_rfl
  rw [hl] at hx ⊢
  simp only [List.map_cons, List.map_nil, List.cons.injEq, Prod.mk.injEq, and_true] at hx
  obtain ⟨⟨a1, a2, a3⟩, b1, b2, b3⟩ := hx
  simp only [Op.eqFields, a1, a2, a3, b1, b2, b3]
  simp only [ne_eq, show ¬ ("T" = "_") by decide, show ¬ ("V" = "_") by decide, not_false_eq_true, if_true]
  have he1 : ∀ a b, (Op.equalIn (d + 1) 2 (.int .i64 a) (.int .i64 b)).run Tryd.prog w = .ok (a == b) w := fun a b => run_equalIn_int w d _ .i64 .i64 a b (by kernel_rfl)
  have he2 : ∀ a b, (Op.equalIn (d + 1) 37 (.int .u64 a) (.int .u64 b)).run Tryd.prog w = .ok (a == b) w := fun a b => run_equalIn_int w d _ .u64 .u64 a b (by kernel_rfl)
  have h0 : ∀ x y : Value, (part 2 #[x, y] 0).run Tryd.prog w = .ok x w := fun x y => run_part_plain w (by kernel_rfl) rfl
  have h1 : ∀ x y : Value, (part 37 #[x, y] 1).run Tryd.prog w = .ok y w := fun x y => run_part_plain w (by kernel_rfl) rfl
  by_cases ha : a = a' <;> by_cases hb : b = b' <;> simp [ha, hb, Sem.run_bind, h0, h1, Result.andThen_ok, he1, he2]
theorem smp_neq (w : World) (t v t' v' : Int) : (binOp .neq 39 (.agg #[.int .i64 t, .int .u64 v]) (.agg #[.int .i64 t', .int .u64 v'])).run Tryd.prog w = .ok (.bool (!(t == t' && v == v'))) w := by
  rw [run_neq_struct, smp_eqD 9998]; rfl
theorem smp_eql (w : World) (t v t' v' : Int) : (binOp .eql 39 (.agg #[.int .i64 t, .int .u64 v]) (.agg #[.int .i64 t', .int .u64 v'])).run Tryd.prog w = .ok (.bool (t == t' && v == v')) w := by
  rw [run_eql_struct, smp_eqD 9998]; rfl
theorem agg_eqD (d' : Nat) (w : World) (a b c d e f g h i : Int) : (Op.equalIn (d' + 1 + 1 + 1) 50 (.agg #[.int .u64 a, .int .i64 b, .int .u64 c, .int .i64 d, .int .u64 e, .int .u64 f, .int .u64 g, .int .u64 h, .int .u64 i]) (.agg #[.int .u64 a, .int .i64 b, .int .u64 c, .int .i64 d, .int .u64 e, .int .u64 f, .int .u64 g, .int .u64 h, .int .u64 i])).run Tryd.prog w = .ok true w := by
  rw [run_equalIn_struct w (d' + 1 + 1) 50 _ _ (by kernel_rfl) (by kernel_rfl)]
  have hf : (Tryd.prog.fieldsOf 50).toList.length = 7 := by kernel_rfl
  obtain ⟨f1, f2, f3, f4, f5, f6, f7, hl⟩ : ∃ f1 f2 f3 f4 f5 f6 f7, (Tryd.prog.fieldsOf 50).toList = [f1, f2, f3, f4, f5, f6, f7] := by
    match h : (Tryd.prog.fieldsOf 50).toList, hf with
    | [a, b, c, d, e, f, g], _ => exact ⟨a, b, c, d, e, f, g, rfl⟩
  have hx : (Tryd.prog.fieldsOf 50).toList.map (fun f => (f.name, f.type, f.offset)) = [("N", 37, 0), ("First", 39, 1), ("Last", 39, 3), ("Min", 37, 5), ("Max", 37, 6), ("High", 37, 7), ("Low", 37, 8)] := by kernel_rfl
  rw [hl] at hx ⊢
  simp only [List.map_cons, List.map_nil, List.cons.injEq, Prod.mk.injEq, and_true] at hx
  obtain ⟨⟨a1, a2, a3⟩, ⟨b1, b2, b3⟩, ⟨c1, c2, c3⟩, ⟨d1, d2, d3⟩, ⟨e1, e2, e3⟩, ⟨g1, g2, g3⟩, i1, i2, i3⟩ := hx
  simp only [Op.eqFields, a1, a2, a3, b1, b2, b3, c1, c2, c3, d1, d2, d3, e1, e2, e3, g1, g2, g3, i1, i2, i3]
  simp only [ne_eq, show ¬ ("N" = "_") by decide, show ¬ ("First" = "_") by decide, show ¬ ("Last" = "_") by decide, show ¬ ("Min" = "_") by decide, show ¬ ("Max" = "_") by decide, show ¬ ("High" = "_") by decide, show ¬ ("Low" = "_") by decide, not_false_eq_true, if_true]
  have he : ∀ a b, (Op.equalIn (d' + 1 + 1) 37 (.int .u64 a) (.int .u64 b)).run Tryd.prog w = .ok (a == b) w := fun a b => run_equalIn_int w (d' + 1) _ .u64 .u64 a b (by kernel_rfl)
  have hp : ∀ (xs : Array Value) (v : Value) (o : Nat), xs[o]? = some v → (part 37 xs o).run Tryd.prog w = .ok v w := fun xs v o h => run_part_plain w (by kernel_rfl) h
  have hs1 : ∀ a b c d e f g h i : Value, (part 39 #[a, b, c, d, e, f, g, h, i] 1).run Tryd.prog w = .ok (.agg #[b, c]) w := fun a b c d e f g h i => by kernel_rfl
  have hs3 : ∀ a b c d e f g h i : Value, (part 39 #[a, b, c, d, e, f, g, h, i] 3).run Tryd.prog w = .ok (.agg #[d, e]) w := fun a b c d e f g h i => by kernel_rfl
  have h0 : ∀ a b c d e f g h i : Value, (part 37 #[a, b, c, d, e, f, g, h, i] 0).run Tryd.prog w = .ok a w := fun a b c d e f g h i => hp _ _ _ rfl
  have h5 : ∀ a b c d e f g h i : Value, (part 37 #[a, b, c, d, e, f, g, h, i] 5).run Tryd.prog w = .ok f w := fun a b c d e f g h i => hp _ _ _ rfl
  have h6 : ∀ a b c d e f g h i : Value, (part 37 #[a, b, c, d, e, f, g, h, i] 6).run Tryd.prog w = .ok g w := fun a b c d e f g h i => hp _ _ _ rfl
  have h7 : ∀ a b c d e f g h i : Value, (part 37 #[a, b, c, d, e, f, g, h, i] 7).run Tryd.prog w = .ok h w := fun a b c d e f g h i => hp _ _ _ rfl
  have h8 : ∀ a b c d e f g h i : Value, (part 37 #[a, b, c, d, e, f, g, h, i] 8).run Tryd.prog w = .ok i w := fun a b c d e f g h i => hp _ _ _ rfl
  simp [Sem.run_bind, h0, h5, h6, h7, h8, hs1, hs3, Result.andThen_ok, he, smp_eqD d']
theorem agg_same (w : World) (a b c d e f g h i : Int) : (binOp .neq 50 (.agg #[.int .u64 a, .int .i64 b, .int .u64 c, .int .i64 d, .int .u64 e, .int .u64 f, .int .u64 g, .int .u64 h, .int .u64 i]) (.agg #[.int .u64 a, .int .i64 b, .int .u64 c, .int .i64 d, .int .u64 e, .int .u64 f, .int .u64 g, .int .u64 h, .int .u64 i])).run Tryd.prog w = .ok (.bool false) w := by
  rw [run_neq_struct, agg_eqD 9997]; rfl
end Go.Proofs.YtneeikjiabpjhaaDoor
