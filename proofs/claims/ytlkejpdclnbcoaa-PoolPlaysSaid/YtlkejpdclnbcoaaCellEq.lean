/- When two cells are the same: a plain theorem about the model. -/
import Derived.Laws.StructEq
import Derived.Test.YtlkejpdclnbcoaaRowsBase
namespace Go.Proofs.Ytlkejpdclnbcoaa.CellEq
open Go Go.RowKit Go.Proofs.YtlkejpdclnbcoaaKit Go.Proofs.Ytlkejpdclnbcoaa.Mem Go.Proofs.Ytlkejpdclnbcoaa.RowsBase
attribute [local go_sem] cell_alloc_some cell_alloc2_some cell_alloc3_some cell_alloc4_some
set_option linter.unusedVariables false
set_option linter.unusedSimpArgs false
theorem equal_int (w : World) (k : IntKind) (t : TypeId) (ht : Try.prog.underlying t = some (.int k)) (d : Nat) (a b : Int) : (Op.equalIn (d + 1) t (.int k a) (.int k b)).run Try.prog w = .ok (decide (a = b)) w := by
  simp [Op.equalIn, run_underlying ht]
  rfl
theorem flds : (Try.prog.fieldsOf 49).toList.map (fun f => (f.name, f.type, f.offset)) = [("R", 21, 0), ("A", 3, 1)] := by kernel_rfl
theorem agg32 (w : World) : (isAgg 21).run Try.prog w = .ok false w := by kernel_rfl
theorem agg64 (w : World) : (isAgg 3).run Try.prog w = .ok false w := by kernel_rfl
theorem cell_same (w : World) (d : Nat) (c e : C) : (Op.equalIn (d + 1 + 1) 49 (.agg #[.int .i32 c.1, .int .i64 c.2]) (.agg #[.int .i32 e.1, .int .i64 e.2])).run Try.prog w = .ok (decide (c = e)) w := by
  rw [run_equalIn_struct (P := Try.prog) w (d + 1) 49 _ _ (by kernel_rfl) (by kernel_rfl)]
  have hl := flds
  generalize (Try.prog.fieldsOf 49).toList = l at *
  obtain ⟨f0, f1, rfl⟩ : ∃ f0 f1, l = [f0, f1] := by
    rcases l with _ | ⟨f0, _ | ⟨f1, _ | ⟨f2, l⟩⟩⟩
    · simp at hl
    · simp at hl
    · exact ⟨f0, f1, rfl⟩
    · simp at hl
  · skip
    simp only [List.map_cons, List.map_nil, List.cons.injEq, Prod.mk.injEq, and_true] at hl
    obtain ⟨⟨n0, t0, o0⟩, n1, t1, o1⟩ := hl
    have e0 := fun d a b => equal_int w .i32 21 Try.underlying21 d a b
    have e1 := fun d a b => equal_int w .i64 3 Try.underlying3 d a b
    obtain ⟨c1, c2⟩ := c
    obtain ⟨g1, g2⟩ := e
    by_cases h1 : c1 = g1 <;> by_cases h2 : c2 = g2 <;> simp [Op.eqFields, n0, n1, t0, t1, o0, o1, part, agg32, agg64, e0, e1, h1, h2]
theorem cell_eql (w : World) (c e : C) : (binOp .eql 49 (.agg #[.int .i32 c.1, .int .i64 c.2]) (.agg #[.int .i32 e.1, .int .i64 e.2])).run Try.prog w = .ok (.bool (decide (c = e))) w := by
  simp only [binOp]
  simp [Op.equal, Op.maxDepth, cell_same w 9998 c e]
theorem cell_neq (w : World) (c e : C) : (binOp .neq 49 (.agg #[.int .i32 c.1, .int .i64 c.2]) (.agg #[.int .i32 e.1, .int .i64 e.2])).run Try.prog w = .ok (.bool (!decide (c = e))) w := by
  simp only [binOp]
  simp [Op.equal, Op.maxDepth, cell_same w 9998 c e]
end Go.Proofs.Ytlkejpdclnbcoaa.CellEq


