import Derived.Test.YtbpeoclhabgcgaaInstMem
namespace Go.Proofs.Ytbpeoclhabgcgaa
open Go.RowKit
set_option linter.unusedVariables false
set_option linter.unusedSimpArgs false
set_option maxHeartbeats 2000000 in
set_option maxRecDepth 100000 in
/-- The law's same: of one instruction. -/
theorem inst_same (i : IV) (vt vt' : Value) (w : World) (h : Ints w vt i.tos) (h' : Ints w vt' i.tos) (hx : i.x.natAbs ≤ 9223372036854775808) (hy : i.y.natAbs ≤ 9223372036854775808) :
    Calls Try.prog 61 #[.agg (i.cells vt).toArray, .agg (i.cells vt').toArray] w fun e w' => e = .returned (.bool true) ∧ Upd (fun _ => False) w w' := by
  obtain ⟨a0, op, A, B, x, y, tx, tos⟩ := i
  have o1 : FloatKind.f64.format.order (fl x) (fl x) = some .eq := order_self x hx
  have o2 : FloatKind.f64.format.order (fl y) (fl y) = some .eq := order_self y hy
  have HI := Lib.hid h
  have HI' := Lib.hid h'
  obtain ⟨ao, cap, rfl, _⟩ := h
  obtain ⟨ao', cap', rfl, _⟩ := h'
  simp only [IV.cells]
  generalize fl x = fx at *
  generalize fl y = fy at *
  generalize strOf tx = st at *
  clear hx hy
  simp only at HI HI'
  go_enter Try.func61, Try.ntmps61
  go_wp2_with fail
  refine (sameI_eq _ _ tos _ (HI.out.upd (((Upd.refl (fun _ => False) w).alloc _).alloc _) (fun _ _ hf => hf)) (HI'.out.upd (((Upd.refl (fun _ => False) w).alloc _).alloc _) (fun _ _ hf => hf))).mono ?_
  rintro e w' ⟨rfl, n, rfl⟩
  go_wp2_with fail
  go_ret
  exact ⟨rfl, (((Upd.refl _ w).alloc _).alloc _).drewN _⟩
end Go.Proofs.Ytbpeoclhabgcgaa
