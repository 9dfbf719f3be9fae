import Derived.Test.YtbpeoclhabgcgaaNumB
/-
  CHAPTER 13'S RUNS: Size and Encode of the few lists that they write.
-/
namespace Go.Proofs.Ytbpeoclhabgcgaa
open Go.RowKit
set_option linter.unusedVariables false
set_option linter.unusedSimpArgs false
set_option maxHeartbeats 4000000 in
set_option maxRecDepth 100000 in
theorem size_ret (a0 : Int) (w : World) : Calls Try.prog 63 #[.agg #[.int .i64 a0, .int .i64 15, .int .i64 0, .int .i64 0, .complex .f64 0 0, .string ⟨#[]⟩, .slice none 0 0]] w fun e w' => e = .returned (.int .i64 1) ∧ Upd (fun _ => False) w w' := by
  go_enter Try.func63, Try.ntmps63
  go_wp2_with fail
  refine (write_ret a0 _).mono ?_
  rintro e w1 ⟨V, rfl, ⟨ao, cap, rfl, _⟩, hu⟩
  go_wp2_with fail
  go_ret
  exact ⟨rfl, ((Upd.refl (fun _ => False) w).alloc _).trans' hu⟩
set_option maxHeartbeats 4000000 in
set_option maxRecDepth 100000 in
theorem size_push (w : World) : Calls Try.prog 63 #[.agg #[.int .i64 0, .int .i64 1, .int .i64 0, .int .i64 0, .complex .f64 4613937818241073152 13830554455654793216, .string ⟨#[]⟩, .slice none 0 0]] w fun e w' => e = .returned (.int .i64 3) ∧ Upd (fun _ => False) w w' := by
  go_enter Try.func63, Try.ntmps63
  go_wp2_with fail
  refine (write_push 0 _).mono ?_
  rintro e w1 ⟨V, rfl, ⟨ao, cap, rfl, _⟩, hu⟩
  go_wp2_with fail
  go_ret
  exact ⟨rfl, ((Upd.refl (fun _ => False) w).alloc _).trans' hu⟩
set_option maxHeartbeats 4000000 in
set_option maxRecDepth 100000 in
theorem size_jump (g : Nat) (w : World) : Calls Try.prog 63 #[.agg #[.int .i64 0, .int .i64 5, .int .i64 0, .int .i64 0, .complex .f64 0 0, .string ⟨#[]⟩, .slice (some ⟨g, 0, none⟩) 1 1]] w fun e w' => e = .returned (.int .i64 3) ∧ Upd (fun _ => False) w w' := by
  go_enter Try.func63, Try.ntmps63
  go_wp2_with fail
  refine (write_jump 0 g _).mono ?_
  rintro e w1 ⟨V, rfl, ⟨ao, cap, rfl, _⟩, hu⟩
  go_wp2_with fail
  go_ret
  exact ⟨rfl, ((Upd.refl (fun _ => False) w).alloc _).trans' hu⟩
def EncP (V : Value) (e0 : Int) (w : World) (e : Ending) (w' : World) : Prop := e = .returned (.tuple #[V, .int .i64 e0]) ∧ Upd (fun _ => False) w w'
set_option maxHeartbeats 4000000 in
set_option maxRecDepth 100000 in
theorem enc_load (k : Nat) (w : World) (h : Row w k 83 [.int .i64 0, .int .i64 3, .int .i64 256, .int .i64 0, .complex .f64 0 0, .string ⟨#[]⟩, .slice none 0 0]) :
    Calls Try.prog 49 #[.slice (some ⟨k, 0, none⟩) 1 1] w (EncP (.slice none 0 0) 12 w) := by
  have c0 := h.get (i := 0) rfl
  have c1 := h.get (i := 1) rfl
  have c2 := h.get (i := 2) rfl
  have c3 := h.get (i := 3) rfl
  have c4 := h.get (i := 4) rfl
  have c5 := h.get (i := 5) rfl
  have c6 := h.get (i := 6) rfl
  clear h
  go_enter Try.func49, Try.ntmps49
  go_wp2_with fail
  refine wp_loop_rounds 1 ?_
  rw [rounds_succ]
  go_wp2_with fail
  refine (formed_load _).mono ?_
  rintro e w1 ⟨rfl, hu⟩
  go_wp2_with fail
  go_ret2
  exact ⟨rfl, ((Upd.refl _ w).alloc _).trans' hu⟩
set_option maxHeartbeats 8000000 in
set_option maxRecDepth 100000 in
theorem enc_retb (k : Nat) (w : World) (h : Row w k 83 [.int .i64 0, .int .i64 15, .int .i64 0, .int .i64 1, .complex .f64 0 0, .string ⟨#[]⟩, .slice none 0 0]) :
    Calls Try.prog 49 #[.slice (some ⟨k, 0, none⟩) 1 1] w (EncP (.slice none 0 0) 12 w) := by
  have c0 := h.get (i := 0) rfl
  have c1 := h.get (i := 1) rfl
  have c2 := h.get (i := 2) rfl
  have c3 := h.get (i := 3) rfl
  have c4 := h.get (i := 4) rfl
  have c5 := h.get (i := 5) rfl
  have c6 := h.get (i := 6) rfl
  clear h
  go_enter Try.func49, Try.ntmps49
  go_wp2_with fail
  refine wp_loop_rounds 1 ?_
  rw [rounds_succ]
  go_wp2_with fail
  refine (formed_retb _).mono ?_
  rintro e w1 ⟨rfl, hu⟩
  go_wp2_with fail
  go_ret2
  exact ⟨rfl, ((Upd.refl _ w).alloc _).trans' hu⟩
set_option maxHeartbeats 8000000 in
set_option maxRecDepth 100000 in
theorem enc_late (k : Nat) (w : World) (h : Row w k 83 [.int .i64 1, .int .i64 15, .int .i64 0, .int .i64 0, .complex .f64 0 0, .string ⟨#[]⟩, .slice none 0 0]) :
    Calls Try.prog 49 #[.slice (some ⟨k, 0, none⟩) 1 1] w (EncP (.slice none 0 0) 22 w) := by
  have c0 := h.get (i := 0) rfl
  have c1 := h.get (i := 1) rfl
  have c2 := h.get (i := 2) rfl
  have c3 := h.get (i := 3) rfl
  have c4 := h.get (i := 4) rfl
  have c5 := h.get (i := 5) rfl
  have c6 := h.get (i := 6) rfl
  clear h
  go_enter Try.func49, Try.ntmps49
  go_wp2_with fail
  refine wp_loop_rounds 1 ?_
  rw [rounds_succ]
  go_wp2_with fail
  refine (formed_ret 1 _).mono ?_
  rintro e w1 ⟨rfl, hu⟩
  have d0 := hu.cell_some (p := ⟨w.heap.size, 0, none⟩) (v := .int .i64 1) (by rw [cell_of_row _ _ 0 _ 83 (0, 0) (heap_alloc_new w _)]; rfl) (fun e => e)
  go_wp2_with fail
  go_ret2
  exact ⟨rfl, ((Upd.refl _ w).alloc _).trans' hu⟩
set_option maxHeartbeats 8000000 in
set_option maxRecDepth 100000 in
theorem enc_jump (g : Nat) (k : Nat) (w : World) (h : Row w k 83 [.int .i64 0, .int .i64 5, .int .i64 0, .int .i64 0, .complex .f64 0 0, .string ⟨#[]⟩, .slice (some ⟨g, 0, none⟩) 1 1]) (hg : w.cell? ⟨g, 0, none⟩ = some (.int .i64 2)) :
    Calls Try.prog 49 #[.slice (some ⟨k, 0, none⟩) 1 1] w (EncP (.slice none 0 0) 22 w) := by
  have c0 := h.get (i := 0) rfl
  have c1 := h.get (i := 1) rfl
  have c2 := h.get (i := 2) rfl
  have c3 := h.get (i := 3) rfl
  have c4 := h.get (i := 4) rfl
  have c5 := h.get (i := 5) rfl
  have c6 := h.get (i := 6) rfl
  clear h
  go_enter Try.func49, Try.ntmps49
  go_wp2_with fail
  refine wp_loop_rounds 1 ?_
  rw [rounds_succ]
  go_wp2_with fail
  refine (formed_jump g _).mono ?_
  rintro e w1 ⟨rfl, hu⟩
  have hr1 : Row w1 w.heap.size 83 [.int .i64 0, .int .i64 5, .int .i64 0, .int .i64 0, .complex .f64 0 0, .string ⟨#[]⟩, .slice (some ⟨g, 0, none⟩) 1 1] := Row.upd (heap_alloc_new w _) hu (fun e => e)
  have HR1 := Lib.hid hr1
  have HU1 := Lib.hid hu
  have d0 := hr1.get (i := 0) rfl
  have d1 := hr1.get (i := 1) rfl
  have d2 := hr1.get (i := 2) rfl
  have d3 := hr1.get (i := 3) rfl
  have d4 := hr1.get (i := 4) rfl
  have d5 := hr1.get (i := 5) rfl
  have d6 := hr1.get (i := 6) rfl
  clear hr1 hu
  go_wp2_with fail
  refine (size_jump g _).mono ?_
  rintro e w2 ⟨rfl, hu2⟩
  have e6 := (HR1.out.upd hu2 (fun e => e)).get (i := 6) rfl
  have hg2 := (((Upd.refl (fun _ => False) w).alloc (.cells #[.int .i64 0, .int .i64 5, .int .i64 0, .int .i64 0, .complex .f64 0 0, .string ⟨#[]⟩, .slice (some ⟨g, 0, none⟩) 1 1] 83)).trans' (HU1.out.trans' hu2)).cell_some hg (fun e => e)
  have HU2 := Lib.hid hu2
  clear hu2 hg d0 d1 d2 d3 d4 d5 d6
  go_wp2_with fail
  refine wp_loop_rounds 1 ?_
  rw [rounds_succ]
  go_wp2_with fail
  go_ret2
  exact ⟨rfl, ((Upd.refl _ w).alloc _).trans' (HU1.out.trans' HU2.out)⟩
end Go.Proofs.Ytbpeoclhabgcgaa
