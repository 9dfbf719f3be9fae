import Derived.Test.YtbpeoclhabgcgaaRight
import Derived.Test.YtbpeoclhabgcgaaReads
import Derived.BigQuiet
import Derived.Deep.DeepCutAuto
import Derived.Deep.CutBlock
namespace Go.Proofs.Ytbpeoclhabgcgaa
open Go.RowKit
set_option linter.unusedVariables false
set_option linter.unusedSimpArgs false
/-- What an operation asks. -/
def asksA (op : Int) : Bool := decide (op = 3 ∨ op = 4 ∨ op = 7 ∨ op = 14 ∨ op = 9 ∨ op = 13 ∨ op = 8 ∨ op = 10)
def asksB (op : Int) : Bool := decide (op = 8)
def asksN (op : Int) : Int := if op = 5 ∨ op = 6 then 1 else if op = 10 then -1 else 0
def takesN (op : Int) : Int := if op = 9 ∨ op = 10 ∨ op = 13 then 2 else if op = 11 ∨ op = 12 then 1 else 0
def takesB (op : Int) : Bool := decide (op = 9 ∨ op = 10 ∨ op = 13 ∨ op = 11 ∨ op = 12)
set_option maxHeartbeats 1000000 in
set_option maxRecDepth 100000 in
theorem asks_any (op : Int) (w : World) : Calls Try.prog 67 #[.int .i64 op] w fun e w' => e = .returned (.tuple #[.bool (asksA op), .bool (asksB op), .int .i64 (asksN op)]) ∧ w' = w := by
  go_enter Try.func67, Try.ntmps67
  go_wp2_with fail
  all_goals go_ret3
  all_goals refine ⟨?_, rfl⟩
  all_goals simp only [beq_iff_eq, beq_eq_false_iff_ne, ne_eq, Bool.not_eq_true] at *
  all_goals simp [asksA, asksB, asksN, *]
set_option maxHeartbeats 1000000 in
set_option maxRecDepth 100000 in
theorem takes_any (op : Int) (w : World) : Calls Try.prog 47 #[.int .i64 op] w fun e w' => e = .returned (.tuple #[.int .i64 (takesN op), .bool (takesB op)]) ∧ w' = w := by
  go_enter Try.func47, Try.ntmps47
  go_wp2_with fail
  all_goals go_ret2
  all_goals refine ⟨?_, rfl⟩
  all_goals simp only [beq_iff_eq, beq_eq_false_iff_ne, ne_eq, Bool.not_eq_true] at *
  all_goals simp [takesN, takesB, *]
set_option maxHeartbeats 1000000 in
set_option maxRecDepth 100000 in
theorem rtakes_any (op : Int) (w : World) : Calls Try.prog 48 #[.int .i64 op] w fun e w' => e = .returned (.tuple #[.int .i64 (takesN op), .bool (takesB op)]) ∧ w' = w := by
  go_enter Try.func48, Try.ntmps48
  go_wp2_with fail
  all_goals go_ret2
  all_goals refine ⟨?_, rfl⟩
  all_goals simp only [beq_iff_eq, beq_eq_false_iff_ne, ne_eq, Bool.not_eq_true] at *
  all_goals simp [takesN, takesB, *]
set_option maxHeartbeats 1000000 in
set_option maxRecDepth 100000 in
theorem rasks_any (op : Int) (w : World) : Calls Try.prog 70 #[.int .i64 op] w fun e w' => e = .returned (.tuple #[.bool (asksA op), .bool (asksB op)]) ∧ w' = w := by
  go_enter Try.func70, Try.ntmps70
  go_wp2_with fail
  all_goals go_ret2
  all_goals refine ⟨?_, rfl⟩
  all_goals simp only [beq_iff_eq, beq_eq_false_iff_ne, ne_eq, Bool.not_eq_true] at *
  all_goals simp [asksA, asksB, *]
end Go.Proofs.Ytbpeoclhabgcgaa
