import Derived.Test.YtbpeoclhabgcgaaInstDec
/-
  CHAPTER 13'S RUNS: formed of the few instructions that they write.
-/
namespace Go.Proofs.Ytbpeoclhabgcgaa
open Go.RowKit
set_option linter.unusedVariables false
set_option linter.unusedSimpArgs false
def okNum (n : Int) (b : Bool) : Bool := n == 0 || (b && decide (0 < n) && decide (n < 256))
set_option maxHeartbeats 1000000 in
set_option maxRecDepth 100000 in
theorem number_code (n : Int) (b : Bool) (w : World) : Calls Try.prog 74 #[.int .i64 n, .bool b] w fun e w' => e = .returned (.bool (okNum n b)) ∧ w' = w := by
  go_enter Try.func74, Try.ntmps74
  go_wp2_with fail
  all_goals go_ret
  all_goals refine ⟨?_, rfl⟩
  all_goals simp only [beq_iff_eq, beq_eq_false_iff_ne, ne_eq, Bool.not_eq_true] at *
  all_goals simp [okNum, *]
  all_goals omega
theorem fl3 : fl 3 = 4613937818241073152 := by kernel_rfl
theorem flm1 : fl (-1) = 13830554455654793216 := by kernel_rfl
theorem asks_is (op : Int) {a b : Bool} {n : Int} (ha : asksA op = a) (hb : asksB op = b) (hn : asksN op = n) (w : World) : Calls Try.prog 67 #[.int .i64 op] w fun e w' => e = .returned (.tuple #[.bool a, .bool b, .int .i64 n]) ∧ w' = w := by
  subst ha hb hn; exact asks_any op w
theorem takes_is (op : Int) {n : Int} {b : Bool} (hn : takesN op = n) (hb : takesB op = b) (w : World) : Calls Try.prog 47 #[.int .i64 op] w fun e w' => e = .returned (.tuple #[.int .i64 n, .bool b]) ∧ w' = w := by
  subst hb hn; exact takes_any op w
theorem number_is (n : Int) (b r : Bool) (h : okNum n b = r) (w : World) : Calls Try.prog 74 #[.int .i64 n, .bool b] w fun e w' => e = .returned (.bool r) ∧ w' = w := by
  subst h; exact number_code n b w
theorem right_3 (w : World) : Calls Try.prog 68 #[.complex .f64 4613937818241073152 13830554455654793216] w fun e w' => e = .returned (.bool true) ∧ w' = w := by
  have := right_any 3 (-1) (by decide) (by decide) w
  rw [fl3, flm1] at this
  exact this
set_option maxHeartbeats 1000000 in
set_option maxRecDepth 100000 in
theorem formed_ret (a0 : Int) (w : World) : Calls Try.prog 62 #[.agg #[.int .i64 a0, .int .i64 15, .int .i64 0, .int .i64 0, .complex .f64 0 0, .string ⟨#[]⟩, .slice none 0 0]] w fun e w' => e = .returned (.bool true) ∧ Upd (fun _ => False) w w' := by
  go_enter Try.func62, Try.ntmps62
  go_wp2_with (first | (go_at_call 67; refine (asks_is _ (a := false) (b := false) (n := 0) rfl rfl rfl _).mono ?_; rintro e wq ⟨rfl, rfl⟩) | (go_at_call 74; refine (number_is 0 false true (by decide) _).mono ?_; rintro e wq ⟨rfl, rfl⟩))
  all_goals go_ret
  all_goals exact ⟨rfl, (Upd.refl _ w).alloc _⟩
set_option maxHeartbeats 1000000 in
set_option maxRecDepth 100000 in
theorem formed_load (w : World) : Calls Try.prog 62 #[.agg #[.int .i64 0, .int .i64 3, .int .i64 256, .int .i64 0, .complex .f64 0 0, .string ⟨#[]⟩, .slice none 0 0]] w fun e w' => e = .returned (.bool false) ∧ Upd (fun _ => False) w w' := by
  go_enter Try.func62, Try.ntmps62
  go_wp2_with fail
  refine (asks_is _ (a := true) (b := false) (n := 0) rfl rfl rfl _).mono ?_
  rintro e wq ⟨rfl, rfl⟩
  go_wp2_with fail
  refine (number_is 256 true false (by decide) _).mono ?_
  rintro e wq ⟨rfl, rfl⟩
  go_wp2_with fail
  go_ret
  refine ⟨rfl, ?_⟩
  exact (Upd.refl _ w).alloc _
set_option maxHeartbeats 1000000 in
set_option maxRecDepth 100000 in
theorem formed_retb (w : World) : Calls Try.prog 62 #[.agg #[.int .i64 0, .int .i64 15, .int .i64 0, .int .i64 1, .complex .f64 0 0, .string ⟨#[]⟩, .slice none 0 0]] w fun e w' => e = .returned (.bool false) ∧ Upd (fun _ => False) w w' := by
  go_enter Try.func62, Try.ntmps62
  go_wp2_with fail
  refine (asks_is _ (a := false) (b := false) (n := 0) rfl rfl rfl _).mono ?_
  rintro e wq ⟨rfl, rfl⟩
  go_wp2_with fail
  refine (number_is 0 false true (by decide) _).mono ?_
  rintro e wq ⟨rfl, rfl⟩
  go_wp2_with fail
  refine (number_is 1 false false (by decide) _).mono ?_
  rintro e wq ⟨rfl, rfl⟩
  go_wp2_with fail
  go_ret
  refine ⟨rfl, ?_⟩
  exact (Upd.refl _ w).alloc _
set_option maxHeartbeats 1000000 in
set_option maxRecDepth 100000 in
theorem formed_jump (g : Nat) (w : World) : Calls Try.prog 62 #[.agg #[.int .i64 0, .int .i64 5, .int .i64 0, .int .i64 0, .complex .f64 0 0, .string ⟨#[]⟩, .slice (some ⟨g, 0, none⟩) 1 1]] w fun e w' => e = .returned (.bool true) ∧ Upd (fun _ => False) w w' := by
  go_enter Try.func62, Try.ntmps62
  go_wp2_with (first | (go_at_call 67; refine (asks_is _ (a := false) (b := false) (n := 1) rfl rfl rfl _).mono ?_; rintro e wq ⟨rfl, rfl⟩) | (go_at_call 74; refine (number_is 0 false true (by decide) _).mono ?_; rintro e wq ⟨rfl, rfl⟩))
  all_goals go_ret
  all_goals exact ⟨rfl, (Upd.refl _ w).alloc _⟩
set_option maxHeartbeats 1000000 in
set_option maxRecDepth 100000 in
theorem formed_push (w : World) : Calls Try.prog 62 #[.agg #[.int .i64 0, .int .i64 1, .int .i64 0, .int .i64 0, .complex .f64 4613937818241073152 13830554455654793216, .string ⟨#[]⟩, .slice none 0 0]] w fun e w' => e = .returned (.bool true) ∧ Upd (fun _ => False) w w' := by
  go_enter Try.func62, Try.ntmps62
  go_wp2_with (first | (go_at_call 67; refine (asks_is _ (a := false) (b := false) (n := 0) rfl rfl rfl _).mono ?_; rintro e wq ⟨rfl, rfl⟩) | (go_at_call 74; refine (number_is 0 false true (by decide) _).mono ?_; rintro e wq ⟨rfl, rfl⟩) | (go_at_call 68; refine (right_3 _).mono ?_; rintro e wq ⟨rfl, rfl⟩))
  all_goals go_ret
  all_goals exact ⟨rfl, (Upd.refl _ w).alloc _⟩
end Go.Proofs.Ytbpeoclhabgcgaa
