import Derived.Test.YtbpeoclhabgcgaaNumF
import Derived.Laws.OwnMore
/-
  CODENUMBERS: the walk.
-/
namespace Go.Proofs.Ytbpeoclhabgcgaa
open Go.RowKit
set_option linter.unusedVariables false
set_option linter.unusedSimpArgs false
set_option maxHeartbeats 1000000 in
set_option maxRecDepth 100000 in
theorem takes_ref (op : Int) (w : World) : Calls Try.prog 48 #[.int .i64 op] w fun e w' => e = .returned (.tuple #[.int .i64 (takesN op), .bool (takesB op)]) ∧ w' = w := by
  go_enter Try.func48, Try.ntmps48
  go_wp2_with fail
  all_goals go_ret2
  all_goals refine ⟨?_, rfl⟩
  all_goals simp only [beq_iff_eq, beq_eq_false_iff_ne, ne_eq, Bool.not_eq_true] at *
  all_goals simp [takesN, takesB, *]
def z2049 : List UInt8 := List.replicate 2049 0
theorem z2049_len : z2049.length = 2049 := List.length_replicate
theorem make2049 (w : World) : (Instr.makeSlice 27 (.int .i64 2049) (.int .i64 2049)).run Try.prog w = .ok (.slice (some ⟨w.heap.size, 0, none⟩) 2049 2049) (w.alloc (.cells (bytesV z2049).toArray 5)) := by
  obtain ⟨i0, hi, hz0, hz1, hz2⟩ := info_parts Try.info5
  have hr := run_make (P := Try.prog) w 27 5 i0 (.int .u8 0) Try.underlying27 hi hz0 .i64 .i64 2049 2049 (by omega) (Int.le_refl _) (by rw [hz2]; decide) (by omega)
  rw [hr, hz1]
  have h : (madeCells (Value.int .u8 0).cells ((2049 : Int).toNat * 1)) = (bytesV z2049).toArray := by
    apply Array.toList_inj.1
    have := toList_madeCells_one (.int .u8 0) 2049
    rw [show (Value.int IntKind.u8 0).cells = #[.int .u8 0] from rfl, show (2049 : Int).toNat * 1 = 2049 from rfl, this]
    unfold bytesV z2049
    rw [List.map_replicate]
    rfl
  rw [h]
  rfl
theorem bytes2049 (w : World) : Bytes (w.alloc (.cells (bytesV z2049).toArray 5)) (.slice (some ⟨w.heap.size, 0, none⟩) 2049 2049) z2049 := by
  have := Bytes_new w z2049 (by rw [z2049_len]; decide)
  rw [z2049_len] at this
  exact this
theorem Bytes_none (w : World) : Bytes w (.slice none 0 0) [] := ⟨none, 0, rfl, Nat.le_refl _, by decide, .inl rfl⟩
theorem row_new2 (w : World) (o : Obj) (cs : List Value) : Row ((w.alloc o).alloc (.cells cs.toArray 83)) (w.heap.size + 1) 83 cs := by
  have := heap_alloc_new (w.alloc o) (.cells cs.toArray 83)
  rw [World.size_alloc] at this
  exact this
theorem cell_old2 (w : World) (z : Int) (o : Obj) : ((w.alloc (.cells #[.int .i64 z] 3)).alloc o).cell? ⟨w.heap.size, 0, none⟩ = some (.int .i64 z) := by
  refine ((Upd.refl (fun _ => False) (w.alloc (.cells #[.int .i64 z] 3))).alloc o).cell_some ?_ (fun e => e)
  rw [cell_of_row _ _ 0 _ 3 (0, 0) (heap_alloc_new w _)]; rfl
set_option maxHeartbeats 32000000 in
set_option maxRecDepth 100000 in
/-- hawserlaw13.CodeNumbers. -/
theorem cnumbers_any (w : World) : Calls Try.prog 12 #[] w fun e w' => e = .returned (.bool true) ∧ Upd (fun _ => False) w w' := by
  go_enter Try.func12, Try.ntmps12
  go_wp2_with fail
  go_loopw [1] (fun i wr => ∃ k : Int, i = .int .i64 k ∧ -1 ≤ k ∧ k ≤ 18 ∧ wr = w) (fun i _ => (18 - intOf i).toNat)
  case atStart => exact ⟨-1, rfl, by omega, by omega, rfl⟩
  case round =>
    obtain ⟨k, rfl, hk1, hk2, rfl⟩ := hrel
    by_cases hlt : k < 18
    · have hwr : IntKind.i64.wrap (k + 1) = k + 1 := IntWalk.i64_in _ (by omega)
      go_wp2_with fail
      refine (takes_any k _).mono ?_
      rintro e wq ⟨rfl, rfl⟩
      go_wp2_with fail
      refine (takes_ref k _).mono ?_
      rintro e wq ⟨rfl, rfl⟩
      go_wp2_with fail
      go_roundw
      case rel => exact ⟨k + 1, rfl, by omega, by omega, by first | rfl | trivial⟩
      case measure => (try simp [intOf]) <;> (try omega)
    · go_wp2_with fail
      refine (dec_is (Bytes_new wr [0] (by decide)) (by decide) out_zero).mono ?_
      rintro e w1 ⟨hu, V1, hi, rfl⟩
      have HU1 := Lib.hid ((Upd.refl (fun _ => False) wr).trans' (((Upd.refl (fun _ => False) wr).alloc _).trans' hu))
      clear hu hi
      go_wp2_with fail
      refine (dec_is (Bytes_none w1) (by decide) out_nil).mono ?_
      rintro e w2 ⟨hu, V2, hi, rfl⟩
      have HU2 := Lib.hid (HU1.out.trans' (hu))
      obtain ⟨ao2, cap2, rfl⟩ := hi.len
      clear hu hi HU1
      go_wp2_with fail
      refine (dec_is (Bytes_new w2 [15, 11, 0, 1] (by decide)) (by decide) out_call).mono ?_
      rintro e w3 ⟨hu, V3, hi, rfl⟩
      have HU3 := Lib.hid (HU2.out.trans' (((Upd.refl (fun _ => False) w2).alloc _).trans' hu))
      clear hu hi HU2
      go_wp2_with fail
      refine (dec_is (Bytes_new w3 [10, 7, 0, 0] (by decide)) (by decide) out_switch).mono ?_
      rintro e w4 ⟨hu, V4, hi, rfl⟩
      have HU4 := Lib.hid (HU3.out.trans' (((Upd.refl (fun _ => False) w3).alloc _).trans' hu))
      clear hu hi HU3
      go_wp2_with fail
      refine (enc_load _ _ (heap_alloc_new w4 _)).mono ?_
      rintro e w5 ⟨rfl, hu⟩
      have HU5 := Lib.hid (HU4.out.trans' (((Upd.refl (fun _ => False) w4).alloc _).trans' hu))
      clear hu HU4
      go_wp2_with fail
      refine (enc_jump w5.heap.size _ _ (row_new2 w5 _ _) (cell_old2 w5 _ _)).mono ?_
      rintro e w6 ⟨rfl, hu⟩
      have HU6 := Lib.hid (HU5.out.trans' ((((Upd.refl (fun _ => False) w5).alloc _).alloc _).trans' hu))
      clear hu HU5
      go_wp2_with fail
      refine (enc_retb _ _ (heap_alloc_new w6 _)).mono ?_
      rintro e w7 ⟨rfl, hu⟩
      have HU7 := Lib.hid (HU6.out.trans' (((Upd.refl (fun _ => False) w6).alloc _).trans' hu))
      clear hu HU6
      go_wp2_with fail
      refine (enc_late _ _ (heap_alloc_new w7 _)).mono ?_
      rintro e w8 ⟨rfl, hu⟩
      have HU8 := Lib.hid (HU7.out.trans' (((Upd.refl (fun _ => False) w7).alloc _).trans' hu))
      clear hu HU7
      have hmk := make2049 w8
      go_wp2_with fail
      refine (dec_is (bytes2049 w8) (by rw [z2049_len]; decide) (out_long z2049 (by rw [z2049_len]; decide))).mono ?_
      rintro e w9 ⟨hu, V9, hi, rfl⟩
      have HU9 := Lib.hid (HU8.out.trans' (((Upd.refl (fun _ => False) w8).alloc _).trans' hu))
      clear hu hi HU8
      go_wp2_with fail
      refine (refs_run _ _ (heap_alloc_new w9 _)).mono ?_
      rintro e w10 ⟨V10, rfl, hi10, hu⟩
      have HI10 := Lib.hid hi10
      have HU10 := Lib.hid (HU9.out.trans' (((Upd.refl (fun _ => False) w9).alloc _).trans' hu))
      obtain ⟨ao10, cap10, rfl, _, _, _⟩ := hi10
      clear hu HU9
      go_wp2_with fail
      refine (sameI_eq _ _ [1, 6] _ (HI10.out.upd ((Upd.refl (fun _ => False) w10).alloc (.cells (intsV [1, 6]).toArray 3)) (fun _ _ e => e)) (Ints_new w10 [1, 6] (by decide))).mono ?_
      rintro e w11 ⟨rfl, m, rfl⟩
      go_wp2_with fail
      refine (known13 _).mono ?_
      rintro e w12 ⟨rfl, hu⟩
      go_wp2_with fail
      go_ret
      exact ⟨rfl, ((HU10.out.alloc _).drewN m).trans' hu⟩
end Go.Proofs.Ytbpeoclhabgcgaa
