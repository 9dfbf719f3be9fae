import Derived.Test.YtbpeoclhabgcgaaRefMem
namespace Go.Proofs.Ytbpeoclhabgcgaa
open Go.RowKit
set_option linter.unusedVariables false
set_option linter.unusedSimpArgs false
/-- An instruction of noughts is stored, whole. -/
theorem wpList_storeZ {ops : Array Oper} {rest : List Oper} {op : Oper} {a : Act} {w : World} {Q : Exit → Act → World → Prop} (hgd : op.guard = none) (ty : TypeId) (x y : Operand) (ho : op.op = .store ty x y)
    {k : Nat} {e : TypeId} {old : List Value} (hr : Row w k e old) (hl : old.length = 7) (hx : a.eval x = .pointer (some ⟨k, 0, none⟩))
    (hy : a.eval y = .agg #[.int .i64 0, .int .i64 0, .int .i64 0, .int .i64 0, .complex .f64 0 0, .string ⟨#[]⟩, .slice none 0 0]) (hi : (Try.prog.info? ty).map (·.size) = some 7)
    (h : ∀ w', Row w' k e (ivZ.cells (.slice none 0 0)) → Upd (fun j => j = k) w w' → wpList Try.prog ops Q rest (a.put op.dst undef) w') : wpList Try.prog ops Q (op :: rest) a w := by
  have ht : w.there k 0 7 := fun j hj => by
    rw [Nat.zero_add]
    have : j < old.length := by omega
    exact ⟨by rw [hr.get (List.getElem?_eq_getElem this)]; rfl, hr.free j⟩
  refine wpList_store_mid hgd ty x y ho k 0 _ hx hy ht hi (by simp [Value.oneCell']) ?_
  have h7 := store7 hr hl _ _ _ _ _ _ _ _ (show ivZ.cells (.slice none 0 0) = _ from zero_cells)
  refine h _ ?_ ?_
  · exact h7.1
  · exact h7.2
end Go.Proofs.Ytbpeoclhabgcgaa
