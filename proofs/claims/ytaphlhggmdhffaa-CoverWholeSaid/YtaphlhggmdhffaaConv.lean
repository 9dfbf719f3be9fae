import Derived.Test.YtaphlhggmdhffaaWhole0
import Derived.Laws.Runes
namespace Go.Proofs.Ytaphlhggmdhffaa
open Go.RowKit
set_option linter.unusedVariables false
set_option linter.unusedSimpArgs false
theorem run_value {P : Program} {m : Sem Value} {v : Value} {w w' : World} (h : m.run P w = .ok v w') : (do let v ← m; pure (Next.value v) : Sem Next).run P w = .ok (.value v) w' := by
  rw [Sem.run_bind, h]; rfl
theorem wp_value {P : Program} {o : Oper} {a : Act} {w w' : World} {K : Act → World → Prop} {Q : Exit → Act → World → Prop} {v : Value} (h : (execOp a.eval o).run P w = .ok (.value v) w') (hk : K (a.put o.dst v) w') : o.wp P a w K Q := by
  unfold Oper.wp; rw [h]; exact hk
theorem wpList_run {P : Program} {ops : Array Oper} {rest : List Oper} {o : Oper} {a : Act} {w w' : World} {Q : Exit → Act → World → Prop} {v : Value} (hg : o.guard = none) (h : (execOp a.eval o).run P w = .ok (.value v) w') (hk : wpList P ops Q rest (a.put o.dst v) w') : wpList P ops Q (o :: rest) a w :=
  wpList_plain hg fun K hK => wp_value h (hK _ _ hk)
theorem SS.len_nil {w : World} {v : Value} (h : SS w v []) : ∃ ao cap, v = .slice ao 0 cap := by
  obtain ⟨ao, cap, rfl, _⟩ := h; exact ⟨ao, cap, rfl⟩
theorem enc6 : ∀ q : Fin 6, (⟨#[67]⟩ : ByteArray) ++ Utf8.encode (97 + (q.1 : Int)) = cn q := by decide
theorem encs6 : ∀ q : Fin 6, (Utf8.encode (97 + (q.1 : Int))).size ≤ 4 := by decide
theorem cn_size (q : Nat) : (cn q).size = 2 := rfl
theorem dot6 : ∀ q : Fin 6, (⟨#[109, 46]⟩ : ByteArray) ++ cn q = nm true q := by decide
theorem conv32 (n : Int) (h0 : 0 ≤ n) (h1 : n ≤ 1000) (w : World) : (convert 3 21 (.int .i64 n)).run Try.prog w = .ok (.int .i32 n) w := by
  have hw : IntKind.i32.wrap n = n := by
    unfold IntKind.wrap
    simp [IntKind.bits, IntKind.signed]
    omega
  go_simp
theorem convs (n : Int) (w : World) : (convert 21 9 (.int .i32 n)).run Try.prog w = .ok (.string (Utf8.encode n)) w :=
  run_convert_int_string w 21 9 .i32 n (by kernel_rfl) Try.underlying9
end Go.Proofs.Ytaphlhggmdhffaa
