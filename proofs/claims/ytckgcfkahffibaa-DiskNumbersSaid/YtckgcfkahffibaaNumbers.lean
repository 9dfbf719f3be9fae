import Derived.Test.YtckgcfkahffibaaKnown
namespace Go.Proofs.Ytckgcfkahffibaa
open Go.RowKit
set_option linter.unusedVariables false
set_option linter.unusedSimpArgs false
def nu1 : DS := { DS.new with left := 1 }
def nu2 : DS := nu1.put 0 (one 1) 0
def nu3 : DS := { nu2 with gone := true }
def nu4 : DS := { nu3 with left := -1 }
theorem nu_1 : DS.new.wr 255 (one 1) = (1, DS.new) := by rfl
theorem nu_2 : DS.new.rd (-1) = one 0 ∧ DS.new.may (-1) = 1 := ⟨rfl, rfl⟩
theorem nu_3 : ({ DS.new with left := max 1 (-1) } : DS) = nu1 := by rfl
theorem nu_4 : nu1.wr 0 (one 1) = (0, nu2) := by rfl
theorem nu_5 : nu2.wr 1 (one 2) = (37, nu3) := by rfl
theorem nu_6 : nu3.rd 0 = one 0 ∧ nu3.may 0 = 37 := ⟨rfl, rfl⟩
theorem nu_7 : nu3.wr (-1) (one 2) = (1, nu3) := by rfl
theorem nu_8 : ({ nu3 with left := max (-1) (-1) } : DS) = nu4 := by rfl
theorem nu_9 : nu4.wr 1 (one 2) = (37, nu4) := by rfl
theorem nu_10 : (nu4.cut 9).rd 0 = one 1 ∧ (nu4.cut 9).may 0 = 0 := ⟨rfl, rfl⟩
theorem nu_11 : (nu4.cut 9).rd 1 = one 0 ∧ (nu4.cut 9).may 1 = 0 := ⟨rfl, rfl⟩
set_option maxHeartbeats 4000000 in
set_option maxRecDepth 100000 in
theorem numbers_any (w : World) : Calls Try.prog 5 #[] w fun e w' => e = .returned (.bool true) ∧ Upd (fun _ => False) w w' := by
  go_enter Try.func5, Try.ntmps5
  go_wp2_with fail
  refine (new_dsk w).mono ?_
  rintro e w1 ⟨k, S, rfl, hd, hs, hu⟩
  have HD1 := Lib.hid hd
  have HS1 := Lib.hid hs
  have HU1 := Lib.hid hu
  clear hd hs hu
  go_wp2_with fail
  refine (block_one 1 w1).mono ?_
  rintro e w2 ⟨rfl, hA⟩
  have HD2 := Lib.hid (HD1.out.upd0 hA)
  have HU2 := Lib.hid (HU1.out.trans' hA)
  clear hA
  go_wp2_with fail
  refine (write_dsk k DS.new S 255 (one 1) w2 HD2.out (one_len 1) (by decide)).mono ?_
  rw [nu_1]
  rintro e w3 ⟨rfl, S3, hd, hA, hs⟩
  have HD3 := Lib.hid hd
  have HS3 := Lib.hid (show ∀ j, S3 j → w.heap.size ≤ j from fun j hj => (hs j hj).elim (fun h => HS1.out j h) (fun h => Nat.le_trans HU2.out.size h))
  have HU3 := Lib.hid (HU2.out.trans hA (fun j hj h => by have := HS1.out j h; omega))
  clear hd hA hs
  go_wp2_with fail
  refine (read_dsk k DS.new S3 (-1) w3 HD3.out).mono ?_
  rw [nu_2.1, nu_2.2]
  rintro e w4 ⟨rfl, hA⟩
  have HD4 := Lib.hid (HD3.out.upd0 hA)
  have HU4 := Lib.hid (HU3.out.trans' hA)
  clear hA
  go_wp2_with (refine wpList_var28 (by rfl) (by rfl) 3 (.tmp 25) (by rfl) (by rfl) (by rfl) (one 0) (one_len 0) (by rfl) (by rfl) ?c1)
  case c1 =>
  intro w5 hA hr
  have HD5 := Lib.hid (HD4.out.upd0 hA)
  have HU5 := Lib.hid (HU4.out.trans' hA)
  clear hA hr
  go_wp2_with fail
  refine (fail_dsk k DS.new S3 (1) (by decide) w5 HD5.out).mono ?_
  rw [nu_3]
  rintro e w6 ⟨rfl, hd, hA⟩
  have HD6 := Lib.hid hd
  have HU6 := Lib.hid (HU5.out.trans hA (fun j hj h => by have := HS3.out k HD5.out.self; omega))
  clear hd hA
  go_wp2_with fail
  refine (block_one 1 w6).mono ?_
  rintro e w7 ⟨rfl, hA⟩
  have HD7 := Lib.hid (HD6.out.upd0 hA)
  have HU7 := Lib.hid (HU6.out.trans' hA)
  clear hA
  go_wp2_with fail
  refine (write_dsk k nu1 S3 0 (one 1) w7 HD7.out (one_len 1) (by decide)).mono ?_
  rw [nu_4]
  rintro e w8 ⟨rfl, S8, hd, hA, hs⟩
  have HD8 := Lib.hid hd
  have HS8 := Lib.hid (show ∀ j, S8 j → w.heap.size ≤ j from fun j hj => (hs j hj).elim (fun h => HS3.out j h) (fun h => Nat.le_trans HU7.out.size h))
  have HU8 := Lib.hid (HU7.out.trans hA (fun j hj h => by have := HS3.out j h; omega))
  clear hd hA hs
  go_wp2_with fail
  refine (block_one 2 w8).mono ?_
  rintro e w9 ⟨rfl, hA⟩
  have HD9 := Lib.hid (HD8.out.upd0 hA)
  have HU9 := Lib.hid (HU8.out.trans' hA)
  clear hA
  go_wp2_with fail
  refine (write_dsk k nu2 S8 1 (one 2) w9 HD9.out (one_len 2) (by decide)).mono ?_
  rw [nu_5]
  rintro e w10 ⟨rfl, S10, hd, hA, hs⟩
  have HD10 := Lib.hid hd
  have HS10 := Lib.hid (show ∀ j, S10 j → w.heap.size ≤ j from fun j hj => (hs j hj).elim (fun h => HS8.out j h) (fun h => Nat.le_trans HU9.out.size h))
  have HU10 := Lib.hid (HU9.out.trans hA (fun j hj h => by have := HS8.out j h; omega))
  clear hd hA hs
  go_wp2_with fail
  refine (read_dsk k nu3 S10 0 w10 HD10.out).mono ?_
  rw [nu_6.1, nu_6.2]
  rintro e w11 ⟨rfl, hA⟩
  have HD11 := Lib.hid (HD10.out.upd0 hA)
  have HU11 := Lib.hid (HU10.out.trans' hA)
  clear hA
  go_wp2_with (refine wpList_var28 (by rfl) (by rfl) 7 (.tmp 38) (by rfl) (by rfl) (by rfl) (one 0) (one_len 0) (by rfl) (by rfl) ?c1)
  case c1 =>
  intro w12 hA hr
  have HD12 := Lib.hid (HD11.out.upd0 hA)
  have HU12 := Lib.hid (HU11.out.trans' hA)
  clear hA hr
  go_wp2_with fail
  refine (block_one 2 w12).mono ?_
  rintro e w13 ⟨rfl, hA⟩
  have HD13 := Lib.hid (HD12.out.upd0 hA)
  have HU13 := Lib.hid (HU12.out.trans' hA)
  clear hA
  go_wp2_with fail
  refine (write_dsk k nu3 S10 (-1) (one 2) w13 HD13.out (one_len 2) (by decide)).mono ?_
  rw [nu_7]
  rintro e w14 ⟨rfl, S14, hd, hA, hs⟩
  have HD14 := Lib.hid hd
  have HS14 := Lib.hid (show ∀ j, S14 j → w.heap.size ≤ j from fun j hj => (hs j hj).elim (fun h => HS10.out j h) (fun h => Nat.le_trans HU13.out.size h))
  have HU14 := Lib.hid (HU13.out.trans hA (fun j hj h => by have := HS10.out j h; omega))
  clear hd hA hs
  go_wp2_with fail
  refine (fail_dsk k nu3 S14 (-1) (by decide) w14 HD14.out).mono ?_
  rw [nu_8]
  rintro e w15 ⟨rfl, hd, hA⟩
  have HD15 := Lib.hid hd
  have HU15 := Lib.hid (HU14.out.trans hA (fun j hj h => by have := HS14.out k HD14.out.self; omega))
  clear hd hA
  go_wp2_with fail
  refine (block_one 2 w15).mono ?_
  rintro e w16 ⟨rfl, hA⟩
  have HD16 := Lib.hid (HD15.out.upd0 hA)
  have HU16 := Lib.hid (HU15.out.trans' hA)
  clear hA
  go_wp2_with fail
  refine (write_dsk k nu4 S14 1 (one 2) w16 HD16.out (one_len 2) (by decide)).mono ?_
  rw [nu_9]
  rintro e w17 ⟨rfl, S17, hd, hA, hs⟩
  have HD17 := Lib.hid hd
  have HS17 := Lib.hid (show ∀ j, S17 j → w.heap.size ≤ j from fun j hj => (hs j hj).elim (fun h => HS14.out j h) (fun h => Nat.le_trans HU16.out.size h))
  have HU17 := Lib.hid (HU16.out.trans hA (fun j hj h => by have := HS14.out j h; omega))
  clear hd hA hs
  go_wp2_with fail
  refine (cut_dsk k nu4 S17 9 w17 HD17.out (by decide) (by omega)).mono ?_
  rintro e w18 ⟨k2, S2, rfl, hx, hs, hA⟩
  have HX18 := Lib.hid hx
  have HD18 := Lib.hid (HD17.out.upd0 hA)
  have HU18 := Lib.hid (HU17.out.trans' hA)
  clear hx hs hA
  go_wp2_with fail
  refine (read_dsk k2 _ S2 0 w18 HX18.out).mono ?_
  rw [nu_10.1, nu_10.2]
  rintro e w19 ⟨rfl, hA⟩
  have HD19 := Lib.hid (HD18.out.upd0 hA)
  have HX19 := Lib.hid (HX18.out.upd0 hA)
  have HU19 := Lib.hid (HU18.out.trans' hA)
  clear hA
  go_wp2_with (refine wpList_var28 (by rfl) (by rfl) 12 (.tmp 55) (by rfl) (by rfl) (by rfl) (one 1) (one_len 1) (by rfl) (by rfl) ?c1)
  case c1 =>
  intro w20 hA hr
  have HD20 := Lib.hid (HD19.out.upd0 hA)
  have HX20 := Lib.hid (HX19.out.upd0 hA)
  have HU20 := Lib.hid (HU19.out.trans' hA)
  generalize w19.heap.size = g12 at *
  have HR0_20 := Lib.hid hr
  clear hA hr
  go_wp2_with fail
  refine (read_dsk k2 _ S2 1 w20 HX20.out).mono ?_
  rw [nu_11.1, nu_11.2]
  rintro e w21 ⟨rfl, hA⟩
  have HD21 := Lib.hid (HD20.out.upd0 hA)
  have HX21 := Lib.hid (HX20.out.upd0 hA)
  have HU21 := Lib.hid (HU20.out.trans' hA)
  have HR0_21 := Lib.hid (range_upd HR0_20.out hA (fun h => h))
  clear hA
  go_wp2_with (refine wpList_var28 (by rfl) (by rfl) 14 (.tmp 60) (by rfl) (by rfl) (by rfl) (one 0) (one_len 0) (by rfl) (by rfl) ?c1)
  case c1 =>
  intro w22 hA hr
  have HD22 := Lib.hid (HD21.out.upd0 hA)
  have HX22 := Lib.hid (HX21.out.upd0 hA)
  have HU22 := Lib.hid (HU21.out.trans' hA)
  have HR0_22 := Lib.hid (range_upd HR0_21.out hA (fun h => h))
  generalize w21.heap.size = g14 at *
  have HR1_22 := Lib.hid hr
  clear hA hr
  have hr0 := HR0_22.out
  have hr1 := HR1_22.out
  have hl1 : (bytesV (one 1)).length = 64 := by rw [bytesV_length, one_len]
  have hsz1 : (Try.prog.info? 28).map (·.size) = some (bytesV (one 1)).length := by rw [hl1]; exact size28
  have q1 : ∀ w, (binOp .eql 28 (.agg (bytesV (one 1)).toArray) (.agg (bytesV (one 1)).toArray)).run Try.prog w = .ok (.bool true) w := fun w => by rw [eql_block _ _ (one_len 1) (one_len 1)]; simp
  have hl0 : (bytesV (one 0)).length = 64 := by rw [bytesV_length, one_len]
  have hsz0 : (Try.prog.info? 28).map (·.size) = some (bytesV (one 0)).length := by rw [hl0]; exact size28
  have q0 : ∀ w, (binOp .eql 28 (.agg (bytesV (one 0)).toArray) (.agg (bytesV (one 0)).toArray)).run Try.prog w = .ok (.bool true) w := fun w => by rw [eql_block _ _ (one_len 0) (one_len 0)]; simp
  go_wp2_with fail
  refine wp_region_noPanic ?_
  have hS0 : Upd (fun _ => False) w22 w22.drew := (Upd.refl _ w22).drew
  refine wp_region_held (S := fun wx => Upd (fun _ => False) w22 wx) (by kernel_rfl) ?_
  refine wpAnyH_take (i := 0) (v := .int .i64 1) (List.getElem?_toArray.trans rfl) (by kernel_rfl) (by kernel_rfl) (by kernel_rfl) (fun _ _ _ h => h) (Or.inl ⟨by rfl, fun w _ => by rfl⟩) hS0 ?_
  simp only [Act.put, List.setIfInBounds_toArray, List.set_cons_zero, List.set_cons_succ]
  refine wpAnyH_take (i := 1) (v := .bool true) (List.getElem?_toArray.trans rfl) (by kernel_rfl) (by kernel_rfl) (by kernel_rfl) (fun _ _ _ h => h) (Or.inl ⟨by rfl, fun w _ => by go_simp⟩) hS0 ?_
  simp only [Act.put, List.setIfInBounds_toArray, List.set_cons_zero, List.set_cons_succ]
  refine wpAnyH_take (i := 2) (v := .bool true) (List.getElem?_toArray.trans rfl) (by kernel_rfl) (by kernel_rfl) (by kernel_rfl) (fun _ _ _ h => h) (Or.inl ⟨by rfl, fun w _ => by rfl⟩) hS0 ?_
  simp only [Act.put, List.setIfInBounds_toArray, List.set_cons_zero, List.set_cons_succ]
  refine wpAnyH_take (i := 3) (v := .int .i64 1) (List.getElem?_toArray.trans rfl) (by kernel_rfl) (by kernel_rfl) (by kernel_rfl) (fun _ _ _ h => h) (Or.inl ⟨by rfl, fun w _ => by rfl⟩) hS0 ?_
  simp only [Act.put, List.setIfInBounds_toArray, List.set_cons_zero, List.set_cons_succ]
  refine wpAnyH_take (i := 4) (v := .bool true) (List.getElem?_toArray.trans rfl) (by kernel_rfl) (by kernel_rfl) (by kernel_rfl) (fun _ _ _ h => h) (Or.inl ⟨by rfl, fun w _ => by go_simp⟩) hS0 ?_
  simp only [Act.put, List.setIfInBounds_toArray, List.set_cons_zero, List.set_cons_succ]
  refine wpAnyH_take (i := 5) (v := .bool true) (List.getElem?_toArray.trans rfl) (by kernel_rfl) (by kernel_rfl) (by kernel_rfl) (fun _ _ _ h => h) (Or.inl ⟨by rfl, fun w _ => by go_simp⟩) hS0 ?_
  simp only [Act.put, List.setIfInBounds_toArray, List.set_cons_zero, List.set_cons_succ]
  refine wpAnyH_take (i := 6) (v := .bool true) (List.getElem?_toArray.trans rfl) (by kernel_rfl) (by kernel_rfl) (by kernel_rfl) (fun _ _ _ h => h) (Or.inl ⟨by rfl, fun w _ => by rfl⟩) hS0 ?_
  simp only [Act.put, List.setIfInBounds_toArray, List.set_cons_zero, List.set_cons_succ]
  refine wpAnyH_take (i := 7) (v := .int .i64 0) (List.getElem?_toArray.trans rfl) (by kernel_rfl) (by kernel_rfl) (by kernel_rfl) (fun _ _ _ h => h) (Or.inl ⟨by rfl, fun w _ => by rfl⟩) hS0 ?_
  simp only [Act.put, List.setIfInBounds_toArray, List.set_cons_zero, List.set_cons_succ]
  refine wpAnyH_take (i := 8) (v := .bool true) (List.getElem?_toArray.trans rfl) (by kernel_rfl) (by kernel_rfl) (by kernel_rfl) (fun _ _ _ h => h) (Or.inl ⟨by rfl, fun w _ => by go_simp⟩) hS0 ?_
  simp only [Act.put, List.setIfInBounds_toArray, List.set_cons_zero, List.set_cons_succ]
  refine wpAnyH_take (i := 9) (v := .bool true) (List.getElem?_toArray.trans rfl) (by kernel_rfl) (by kernel_rfl) (by kernel_rfl) (fun _ _ _ h => h) (Or.inl ⟨by rfl, fun w _ => by go_simp⟩) hS0 ?_
  simp only [Act.put, List.setIfInBounds_toArray, List.set_cons_zero, List.set_cons_succ]
  refine wpAnyH_take (i := 10) (v := .bool true) (List.getElem?_toArray.trans rfl) (by kernel_rfl) (by kernel_rfl) (by kernel_rfl) (fun _ _ _ h => h) (Or.inl ⟨by rfl, fun w _ => by rfl⟩) hS0 ?_
  simp only [Act.put, List.setIfInBounds_toArray, List.set_cons_zero, List.set_cons_succ]
  refine wpAnyH_take (i := 11) (v := .int .i64 37) (List.getElem?_toArray.trans rfl) (by kernel_rfl) (by kernel_rfl) (by kernel_rfl) (fun _ _ _ h => h) (Or.inl ⟨by rfl, fun w _ => by rfl⟩) hS0 ?_
  simp only [Act.put, List.setIfInBounds_toArray, List.set_cons_zero, List.set_cons_succ]
  refine wpAnyH_take (i := 12) (v := .bool true) (List.getElem?_toArray.trans rfl) (by kernel_rfl) (by kernel_rfl) (by kernel_rfl) (fun _ _ _ h => h) (Or.inl ⟨by rfl, fun w _ => by go_simp⟩) hS0 ?_
  simp only [Act.put, List.setIfInBounds_toArray, List.set_cons_zero, List.set_cons_succ]
  refine wpAnyH_take (i := 13) (v := .bool true) (List.getElem?_toArray.trans rfl) (by kernel_rfl) (by kernel_rfl) (by kernel_rfl) (fun _ _ _ h => h) (Or.inl ⟨by rfl, fun w _ => by go_simp⟩) hS0 ?_
  simp only [Act.put, List.setIfInBounds_toArray, List.set_cons_zero, List.set_cons_succ]
  refine wpAnyH_take (i := 14) (v := .bool true) (List.getElem?_toArray.trans rfl) (by kernel_rfl) (by kernel_rfl) (by kernel_rfl) (fun _ _ _ h => h) (Or.inl ⟨by rfl, fun w _ => by rfl⟩) hS0 ?_
  simp only [Act.put, List.setIfInBounds_toArray, List.set_cons_zero, List.set_cons_succ]
  refine wpAnyH_take (i := 15) (v := .int .i64 37) (List.getElem?_toArray.trans rfl) (by kernel_rfl) (by kernel_rfl) (by kernel_rfl) (fun _ _ _ h => h) (Or.inl ⟨by rfl, fun w _ => by rfl⟩) hS0 ?_
  simp only [Act.put, List.setIfInBounds_toArray, List.set_cons_zero, List.set_cons_succ]
  refine wpAnyH_take (i := 16) (v := .bool true) (List.getElem?_toArray.trans rfl) (by kernel_rfl) (by kernel_rfl) (by kernel_rfl) (fun _ _ _ h => h) (Or.inl ⟨by rfl, fun w _ => by go_simp⟩) hS0 ?_
  simp only [Act.put, List.setIfInBounds_toArray, List.set_cons_zero, List.set_cons_succ]
  refine wpAnyH_take (i := 17) (v := .bool true) (List.getElem?_toArray.trans rfl) (by kernel_rfl) (by kernel_rfl) (by kernel_rfl) (fun _ _ _ h => h) (Or.inl ⟨by rfl, fun w _ => by go_simp⟩) hS0 ?_
  simp only [Act.put, List.setIfInBounds_toArray, List.set_cons_zero, List.set_cons_succ]
  refine wpAnyH_take (i := 18) (v := .bool true) (List.getElem?_toArray.trans rfl) (by kernel_rfl) (by kernel_rfl) (by kernel_rfl) (fun _ _ _ h => h) (Or.inl ⟨by rfl, fun w _ => by rfl⟩) hS0 ?_
  simp only [Act.put, List.setIfInBounds_toArray, List.set_cons_zero, List.set_cons_succ]
  refine wpAnyH_take (i := 19) (v := .int .i64 1) (List.getElem?_toArray.trans rfl) (by kernel_rfl) (by kernel_rfl) (by kernel_rfl) (fun _ _ _ h => h) (Or.inl ⟨by rfl, fun w _ => by rfl⟩) hS0 ?_
  simp only [Act.put, List.setIfInBounds_toArray, List.set_cons_zero, List.set_cons_succ]
  refine wpAnyH_take (i := 20) (v := .bool true) (List.getElem?_toArray.trans rfl) (by kernel_rfl) (by kernel_rfl) (by kernel_rfl) (fun _ _ _ h => h) (Or.inl ⟨by rfl, fun w _ => by go_simp⟩) hS0 ?_
  simp only [Act.put, List.setIfInBounds_toArray, List.set_cons_zero, List.set_cons_succ]
  refine wpAnyH_take (i := 21) (v := .bool true) (List.getElem?_toArray.trans rfl) (by kernel_rfl) (by kernel_rfl) (by kernel_rfl) (fun _ _ _ h => h) (Or.inl ⟨by rfl, fun w _ => by go_simp⟩) hS0 ?_
  simp only [Act.put, List.setIfInBounds_toArray, List.set_cons_zero, List.set_cons_succ]
  refine wpAnyH_take (i := 22) (v := .bool true) (List.getElem?_toArray.trans rfl) (by kernel_rfl) (by kernel_rfl) (by kernel_rfl) (fun _ _ _ h => h) (Or.inl ⟨by rfl, fun w _ => by rfl⟩) hS0 ?_
  simp only [Act.put, List.setIfInBounds_toArray, List.set_cons_zero, List.set_cons_succ]
  refine wpAnyH_take (i := 23) (v := .int .i64 37) (List.getElem?_toArray.trans rfl) (by kernel_rfl) (by kernel_rfl) (by kernel_rfl) (fun _ _ _ h => h) (Or.inl ⟨by rfl, fun w _ => by rfl⟩) hS0 ?_
  simp only [Act.put, List.setIfInBounds_toArray, List.set_cons_zero, List.set_cons_succ]
  refine wpAnyH_take (i := 24) (v := .bool true) (List.getElem?_toArray.trans rfl) (by kernel_rfl) (by kernel_rfl) (by kernel_rfl) (fun _ _ _ h => h) (Or.inl ⟨by rfl, fun w _ => by go_simp⟩) hS0 ?_
  simp only [Act.put, List.setIfInBounds_toArray, List.set_cons_zero, List.set_cons_succ]
  refine wpAnyH_take (i := 25) (v := .bool true) (List.getElem?_toArray.trans rfl) (by kernel_rfl) (by kernel_rfl) (by kernel_rfl) (fun _ _ _ h => h) (Or.inl ⟨by rfl, fun w _ => by go_simp⟩) hS0 ?_
  simp only [Act.put, List.setIfInBounds_toArray, List.set_cons_zero, List.set_cons_succ]
  refine wpAnyH_take (i := 26) (v := .bool true) (List.getElem?_toArray.trans rfl) (by kernel_rfl) (by kernel_rfl) (by kernel_rfl) (fun _ _ _ h => h) (Or.inl ⟨by rfl, fun w _ => by rfl⟩) hS0 ?_
  simp only [Act.put, List.setIfInBounds_toArray, List.set_cons_zero, List.set_cons_succ]
  refine wpAnyH_take (i := 27) (v := .agg (bytesV (one 1)).toArray) (List.getElem?_toArray.trans rfl) (by kernel_rfl) (by kernel_rfl) (by kernel_rfl) (fun _ _ _ h => h) (yieldsIf_load_mid (by rfl) 28 _ rfl g12 0 rfl (bytesV (one 1)) _ (fun w h => range_upd hr0 h (fun h => h)) Try.underlying28 rfl hsz1) hS0 ?_
  simp only [Act.put, List.setIfInBounds_toArray, List.set_cons_zero, List.set_cons_succ]
  refine wpAnyH_ready (rs := [28]) (by kernel_rfl) (by simp) (AllReadyH.cons (List.getElem?_toArray.trans rfl) (fun K hK => ?_) AllReadyH.nil)
  go_simp
  refine (block_one 1 _).mono ?_
  rintro e w' ⟨rfl, hA⟩
  have hS1 := hS0.trans' hA
  refine hK.out _ _ hS1 (fun _ => ?_)
  try simp only [Act.put, List.setIfInBounds_toArray, List.set_cons_zero, List.set_cons_succ]
  refine wpAnyH_take (i := 29) (v := .bool true) (List.getElem?_toArray.trans rfl) (by kernel_rfl) (by kernel_rfl) (by kernel_rfl) (fun _ _ _ h => h) (Or.inl ⟨by rfl, fun w _ => run_value (q1 w)⟩) hS1 ?_
  simp only [Act.put, List.setIfInBounds_toArray, List.set_cons_zero, List.set_cons_succ]
  refine wpAnyH_take (i := 30) (v := .bool true) (List.getElem?_toArray.trans rfl) (by kernel_rfl) (by kernel_rfl) (by kernel_rfl) (fun _ _ _ h => h) (Or.inl ⟨by rfl, fun w _ => by go_simp⟩) hS1 ?_
  simp only [Act.put, List.setIfInBounds_toArray, List.set_cons_zero, List.set_cons_succ]
  refine wpAnyH_take (i := 31) (v := .bool true) (List.getElem?_toArray.trans rfl) (by kernel_rfl) (by kernel_rfl) (by kernel_rfl) (fun _ _ _ h => h) (Or.inl ⟨by rfl, fun w _ => by rfl⟩) hS1 ?_
  simp only [Act.put, List.setIfInBounds_toArray, List.set_cons_zero, List.set_cons_succ]
  refine wpAnyH_take (i := 32) (v := .int .i64 0) (List.getElem?_toArray.trans rfl) (by kernel_rfl) (by kernel_rfl) (by kernel_rfl) (fun _ _ _ h => h) (Or.inl ⟨by rfl, fun w _ => by rfl⟩) hS1 ?_
  simp only [Act.put, List.setIfInBounds_toArray, List.set_cons_zero, List.set_cons_succ]
  refine wpAnyH_take (i := 33) (v := .bool true) (List.getElem?_toArray.trans rfl) (by kernel_rfl) (by kernel_rfl) (by kernel_rfl) (fun _ _ _ h => h) (Or.inl ⟨by rfl, fun w _ => by go_simp⟩) hS1 ?_
  simp only [Act.put, List.setIfInBounds_toArray, List.set_cons_zero, List.set_cons_succ]
  refine wpAnyH_take (i := 34) (v := .bool true) (List.getElem?_toArray.trans rfl) (by kernel_rfl) (by kernel_rfl) (by kernel_rfl) (fun _ _ _ h => h) (Or.inl ⟨by rfl, fun w _ => by go_simp⟩) hS1 ?_
  simp only [Act.put, List.setIfInBounds_toArray, List.set_cons_zero, List.set_cons_succ]
  refine wpAnyH_take (i := 35) (v := .bool true) (List.getElem?_toArray.trans rfl) (by kernel_rfl) (by kernel_rfl) (by kernel_rfl) (fun _ _ _ h => h) (Or.inl ⟨by rfl, fun w _ => by rfl⟩) hS1 ?_
  simp only [Act.put, List.setIfInBounds_toArray, List.set_cons_zero, List.set_cons_succ]
  refine wpAnyH_take (i := 36) (v := .agg (bytesV (one 0)).toArray) (List.getElem?_toArray.trans rfl) (by kernel_rfl) (by kernel_rfl) (by kernel_rfl) (fun _ _ _ h => h) (yieldsIf_load_mid (by rfl) 28 _ rfl g14 0 rfl (bytesV (one 0)) _ (fun w h => range_upd hr1 h (fun h => h)) Try.underlying28 rfl hsz0) hS1 ?_
  simp only [Act.put, List.setIfInBounds_toArray, List.set_cons_zero, List.set_cons_succ]
  refine wpAnyH_ready (rs := [37]) (by kernel_rfl) (by simp) (AllReadyH.cons (List.getElem?_toArray.trans rfl) (fun K hK => ?_) AllReadyH.nil)
  go_simp
  refine (block_one 0 _).mono ?_
  rintro e w' ⟨rfl, hA⟩
  have hS2 := hS1.trans' hA
  refine hK.out _ _ hS2 (fun _ => ?_)
  try simp only [Act.put, List.setIfInBounds_toArray, List.set_cons_zero, List.set_cons_succ]
  refine wpAnyH_take (i := 38) (v := .bool true) (List.getElem?_toArray.trans rfl) (by kernel_rfl) (by kernel_rfl) (by kernel_rfl) (fun _ _ _ h => h) (Or.inl ⟨by rfl, fun w _ => run_value (q0 w)⟩) hS2 ?_
  simp only [Act.put, List.setIfInBounds_toArray, List.set_cons_zero, List.set_cons_succ]
  refine wpAnyH_take (i := 39) (v := .bool true) (List.getElem?_toArray.trans rfl) (by kernel_rfl) (by kernel_rfl) (by kernel_rfl) (fun _ _ _ h => h) (Or.inl ⟨by rfl, fun w _ => by go_simp⟩) hS2 ?_
  simp only [Act.put, List.setIfInBounds_toArray, List.set_cons_zero, List.set_cons_succ]
  refine wpAnyH_take (i := 40) (v := .bool true) (List.getElem?_toArray.trans rfl) (by kernel_rfl) (by kernel_rfl) (by kernel_rfl) (fun _ _ _ h => h) (Or.inl ⟨by rfl, fun w _ => by rfl⟩) hS2 ?_
  simp only [Act.put, List.setIfInBounds_toArray, List.set_cons_zero, List.set_cons_succ]
  refine wpAnyH_take (i := 41) (v := .pointer (some ⟨k2, 0, none⟩)) (List.getElem?_toArray.trans rfl) (by kernel_rfl) (by kernel_rfl) (by kernel_rfl) (fun _ _ _ h => h) (Or.inl ⟨by rfl, fun w _ => by rfl⟩) hS2 ?_
  simp only [Act.put, List.setIfInBounds_toArray, List.set_cons_zero, List.set_cons_succ]
  refine wpAnyH_ready (rs := [42]) (by kernel_rfl) (by simp) (AllReadyH.cons (List.getElem?_toArray.trans rfl) (fun K hK => ?_) AllReadyH.nil)
  go_simp
  refine (writes_len k2 _ S2 0 _ (HX22.out.upd0 hS2) rfl (by omega)).mono ?_
  rintro e w' ⟨⟨ao, c, rfl⟩, hA⟩
  have hS3 := hS2.trans' hA
  refine hK.out _ _ hS3 (fun _ => ?_)
  try simp only [Act.put, List.setIfInBounds_toArray, List.set_cons_zero, List.set_cons_succ]
  refine wpAnyH_take (i := 43) (v := .int .i64 0) (List.getElem?_toArray.trans rfl) (by kernel_rfl) (by kernel_rfl) (by kernel_rfl) (fun _ _ _ h => h) (Or.inl ⟨by rfl, fun w _ => by go_simp⟩) hS3 ?_
  simp only [Act.put, List.setIfInBounds_toArray, List.set_cons_zero, List.set_cons_succ]
  refine wpAnyH_take (i := 44) (v := .bool true) (List.getElem?_toArray.trans rfl) (by kernel_rfl) (by kernel_rfl) (by kernel_rfl) (fun _ _ _ h => h) (Or.inl ⟨by rfl, fun w _ => by go_simp⟩) hS3 ?_
  simp only [Act.put, List.setIfInBounds_toArray, List.set_cons_zero, List.set_cons_succ]
  refine wpAnyH_take (i := 45) (v := .bool true) (List.getElem?_toArray.trans rfl) (by kernel_rfl) (by kernel_rfl) (by kernel_rfl) (fun _ _ _ h => h) (Or.inl ⟨by rfl, fun w _ => by go_simp⟩) hS3 ?_
  simp only [Act.put, List.setIfInBounds_toArray, List.set_cons_zero, List.set_cons_succ]
  refine wpAnyH_take (i := 46) (v := .bool true) (List.getElem?_toArray.trans rfl) (by kernel_rfl) (by kernel_rfl) (by kernel_rfl) (fun _ _ _ h => h) (Or.inl ⟨by rfl, fun w _ => by rfl⟩) hS3 ?_
  simp only [Act.put, List.setIfInBounds_toArray, List.set_cons_zero, List.set_cons_succ]
  refine wpAnyH_ready (rs := [47]) (by kernel_rfl) (by simp) (AllReadyH.cons (List.getElem?_toArray.trans rfl) (fun K hK => ?_) AllReadyH.nil)
  go_simp
  refine (known_any _).mono ?_
  rintro e w' ⟨rfl, hA⟩
  have hS4 := hS3.trans' hA
  refine hK.out _ _ hS4 (fun _ => ?_)
  try simp only [Act.put, List.setIfInBounds_toArray, List.set_cons_zero, List.set_cons_succ]
  refine wpAnyH_take (i := 48) (v := .bool true) (List.getElem?_toArray.trans rfl) (by kernel_rfl) (by kernel_rfl) (by kernel_rfl) (fun _ _ _ h => h) (Or.inl ⟨by rfl, fun w _ => by go_simp⟩) hS4 ?_
  simp only [Act.put, List.setIfInBounds_toArray, List.set_cons_zero, List.set_cons_succ]
  refine wpAnyH_take (i := 49) (v := .bool true) (List.getElem?_toArray.trans rfl) (by kernel_rfl) (by kernel_rfl) (by kernel_rfl) (fun _ _ _ h => h) (Or.inl ⟨by rfl, fun w _ => by rfl⟩) hS4 ?_
  simp only [Act.put, List.setIfInBounds_toArray, List.set_cons_zero, List.set_cons_succ]
  refine wpAnyH_done (by kernel_rfl) ?_ _
  refine NoPanic.normal ?_
  have HF := Lib.hid (HU22.out.trans' hS4)
  go_wp2
  go_ret
  exact ⟨rfl, HF.out⟩
end Go.Proofs.Ytckgcfkahffibaa
