import Derived.Test.YtckgcfkahffibaaEq
namespace Go.Proofs.Ytckgcfkahffibaa
open Go.RowKit
set_option linter.unusedVariables false
set_option linter.unusedSimpArgs false
theorem one_len (b : UInt8) : (one b).length = 64 := by simp only [one, List.length_replicate]
def kn1 : DS := DS.new.put 3 (one 7) (-1)
theorem kn_wr : DS.new.wr 3 (one 7) = (0, kn1) := by rfl
theorem kn_rd : kn1.rd 3 = one 7 ∧ kn1.may 3 = 0 := ⟨rfl, rfl⟩
theorem kn_cut : (kn1.cut 0).rd 3 = one 0 ∧ (kn1.cut 0).may 3 = 0 := ⟨rfl, rfl⟩
theorem block_one (b : UInt8) (w : World) : Calls Try.prog 15 #[.int .u8 b.toNat] w fun e w' => e = .returned (.agg (bytesV (one b)).toArray) ∧ Upd (fun _ => False) w w' := block_any b w

set_option maxHeartbeats 1000000 in
set_option maxRecDepth 100000 in
theorem known_any (w : World) : Calls Try.prog 17 #[] w fun e w' => e = .returned (.bool true) ∧ Upd (fun _ => False) w w' := by
  go_enter Try.func17, Try.ntmps17
  go_wp2_with fail
  refine (new_dsk w).mono ?_
  rintro e w1 ⟨k, S, rfl, hd, hs, hu⟩
  have HD := Lib.hid hd
  have HS := Lib.hid hs
  have HU := Lib.hid hu
  clear hd hs hu
  go_wp2_with fail
  refine (block_one 7 w1).mono ?_
  rintro e w2 ⟨rfl, hu⟩
  have HD2 := Lib.hid (HD.out.upd0 hu)
  have HU2 := Lib.hid (HU.out.trans' hu)
  clear hu
  go_wp2_with fail
  refine (write_dsk k DS.new S 3 (one 7) w2 HD2.out (one_len 7) (by simp [DS.new])).mono ?_
  rw [kn_wr]
  rintro e w3 ⟨rfl, S3, hd, hu, hs⟩
  have HD3 := Lib.hid hd
  have HS3 := Lib.hid (show ∀ j, S3 j → w.heap.size ≤ j from fun j hj => by
    rcases hs j hj with h | h
    · exact HS.out j h
    · have := HU2.out.size; omega)
  have HU3 := Lib.hid (HU2.out.trans hu (fun j hj h => by have := HS.out j h; omega))
  clear hd hs hu
  go_wp2_with fail
  refine (read_dsk k kn1 S3 3 w3 HD3.out).mono ?_
  rw [kn_rd.1, kn_rd.2]
  rintro e w4 ⟨rfl, hu⟩
  have HD4 := Lib.hid (HD3.out.upd0 hu)
  have HU4 := Lib.hid (HU3.out.trans' hu)
  clear hu
  go_wp2_with (refine wpList_var28 (by rfl) (by rfl) 3 (.tmp 17) (by rfl) (by rfl) (by rfl) (one 7) (one_len 7) (by rfl) (by rfl) ?c1)
  case c1 =>
  intro w5 hu hr
  have HD5 := Lib.hid (HD4.out.upd0 hu)
  have HU5 := Lib.hid (HU4.out.trans' hu)
  have HR5 := Lib.hid hr
  clear hu hr
  generalize w4.heap.size = g3 at *
  go_wp2_with fail
  refine (cut_dsk k kn1 S3 0 w5 HD5.out (by simp [kn1, DS.put, DS.new]) (by omega)).mono ?_
  rintro e w6 ⟨k', S', rfl, hd, hs, hu⟩
  have HD6 := Lib.hid (HD5.out.upd0 hu)
  have HE6 := Lib.hid hd
  have HU6 := Lib.hid (HU5.out.trans' hu)
  have HR6 := Lib.hid (range_upd HR5.out hu (fun h => h))
  clear hu hd hs
  go_wp2_with fail
  refine (read_dsk k' _ S' 3 w6 HE6.out).mono ?_
  rw [kn_cut.1, kn_cut.2]
  rintro e w7 ⟨rfl, hu⟩
  have HD7 := Lib.hid (HD6.out.upd0 hu)
  have HU7 := Lib.hid (HU6.out.trans' hu)
  have HR7 := Lib.hid (range_upd HR6.out hu (fun h => h))
  clear hu
  go_wp2_with (refine wpList_var28 (by rfl) (by rfl) 6 (.tmp 26) (by rfl) (by rfl) (by rfl) (one 0) (one_len 0) (by rfl) (by rfl) ?c1)
  case c1 =>
  intro w8 hu hr
  have HD8 := Lib.hid (HD7.out.upd0 hu)
  have HU8 := Lib.hid (HU7.out.trans' hu)
  have HR8 := Lib.hid (range_upd HR7.out hu (fun h => h))
  have hr3 := HR8.out
  generalize w7.heap.size = g6 at *
  have hl7 : (bytesV (one 7)).length = 64 := by rw [bytesV_length, one_len]
  have hl0 : (bytesV (one 0)).length = 64 := by rw [bytesV_length, one_len]
  have hsz7 : (Try.prog.info? 28).map (·.size) = some (bytesV (one 7)).length := by rw [hl7]; exact size28
  have hsz0 : (Try.prog.info? 28).map (·.size) = some (bytesV (one 0)).length := by rw [hl0]; exact size28
  have q7 : ∀ w, (binOp .eql 28 (.agg (bytesV (one 7)).toArray) (.agg (bytesV (one 7)).toArray)).run Try.prog w = .ok (.bool true) w := fun w => by rw [eql_block _ _ (one_len 7) (one_len 7)]; simp
  have q0 : ∀ w, (binOp .eql 28 (.agg (bytesV (one 0)).toArray) (.agg (bytesV (one 0)).toArray)).run Try.prog w = .ok (.bool true) w := fun w => by rw [eql_block _ _ (one_len 0) (one_len 0)]; simp
  go_wp2_with fail
  refine wp_region_noPanic ?_
  have hS0 : Upd (fun _ => False) w8 w8.drew := (Upd.refl _ w8).drew
  refine wp_region_held (S := fun wx => Upd (fun _ => False) w8 wx) (by kernel_rfl) ?_
  refine wpAnyH_take (i := 0) (v := .int .i64 0) (List.getElem?_toArray.trans rfl) (by kernel_rfl) (by kernel_rfl) (by kernel_rfl) (fun _ _ _ h => h) (Or.inl ⟨by rfl, fun w _ => by rfl⟩) hS0 ?_
  simp only [Act.put, List.setIfInBounds_toArray, List.set_cons_zero, List.set_cons_succ]
  refine wpAnyH_take (i := 1) (v := .bool true) (List.getElem?_toArray.trans rfl) (by kernel_rfl) (by kernel_rfl) (by kernel_rfl) (fun _ _ _ h => h) (Or.inl ⟨by rfl, fun w _ => by go_simp⟩) hS0 ?_
  simp only [Act.put, List.setIfInBounds_toArray, List.set_cons_zero, List.set_cons_succ]
  refine wpAnyH_take (i := 2) (v := .bool true) (List.getElem?_toArray.trans rfl) (by kernel_rfl) (by kernel_rfl) (by kernel_rfl) (fun _ _ _ h => h) (Or.inl ⟨by rfl, fun w _ => by rfl⟩) hS0 ?_
  simp only [Act.put, List.setIfInBounds_toArray, List.set_cons_zero, List.set_cons_succ]
  refine wpAnyH_take (i := 3) (v := .int .i64 0) (List.getElem?_toArray.trans rfl) (by kernel_rfl) (by kernel_rfl) (by kernel_rfl) (fun _ _ _ h => h) (Or.inl ⟨by rfl, fun w _ => by rfl⟩) hS0 ?_
  simp only [Act.put, List.setIfInBounds_toArray, List.set_cons_zero, List.set_cons_succ]
  refine wpAnyH_take (i := 4) (v := .bool true) (List.getElem?_toArray.trans rfl) (by kernel_rfl) (by kernel_rfl) (by kernel_rfl) (fun _ _ _ h => h) (Or.inl ⟨by rfl, fun w _ => by go_simp⟩) hS0 ?_
  simp only [Act.put, List.setIfInBounds_toArray, List.set_cons_zero, List.set_cons_succ]
  refine wpAnyH_take (i := 5) (v := .bool true) (List.getElem?_toArray.trans rfl) (by kernel_rfl) (by kernel_rfl) (by kernel_rfl) (fun _ _ _ h => h) (Or.inl ⟨by rfl, fun w _ => by go_simp⟩) hS0 ?_
  simp only [Act.put, List.setIfInBounds_toArray, List.set_cons_zero, List.set_cons_succ]
  refine wpAnyH_take (i := 6) (v := .bool true) (List.getElem?_toArray.trans rfl) (by kernel_rfl) (by kernel_rfl) (by kernel_rfl) (fun _ _ _ h => h) (Or.inl ⟨by rfl, fun w _ => by rfl⟩) hS0 ?_
  simp only [Act.put, List.setIfInBounds_toArray, List.set_cons_zero, List.set_cons_succ]
  refine wpAnyH_take (i := 7) (v := .agg (bytesV (one 7)).toArray) (List.getElem?_toArray.trans rfl) (by kernel_rfl) (by kernel_rfl) (by kernel_rfl) (fun _ _ _ h => h) (yieldsIf_load_mid (by rfl) 28 _ rfl g3 0 rfl (bytesV (one 7)) _ (fun w h => range_upd hr3 h (fun h => h)) Try.underlying28 rfl hsz7) hS0 ?_
  simp only [Act.put, List.setIfInBounds_toArray, List.set_cons_zero, List.set_cons_succ]
  refine wpAnyH_ready (rs := [8]) (by kernel_rfl) (by simp) (AllReadyH.cons (List.getElem?_toArray.trans rfl) (fun K hK => ?_) AllReadyH.nil)
  go_simp
  refine (block_one 7 _).mono ?_
  rintro e w' ⟨rfl, hA⟩
  have hS1 := hS0.trans' hA
  refine hK.out _ _ hS1 (fun _ => ?_)
  try simp only [Act.put, List.setIfInBounds_toArray, List.set_cons_zero, List.set_cons_succ]
  refine wpAnyH_take (i := 9) (v := .bool true) (List.getElem?_toArray.trans rfl) (by kernel_rfl) (by kernel_rfl) (by kernel_rfl) (fun _ _ _ h => h) (Or.inl ⟨by rfl, fun w _ => run_value (q7 w)⟩) hS1 ?_
  simp only [Act.put, List.setIfInBounds_toArray, List.set_cons_zero, List.set_cons_succ]
  refine wpAnyH_take (i := 10) (v := .bool true) (List.getElem?_toArray.trans rfl) (by kernel_rfl) (by kernel_rfl) (by kernel_rfl) (fun _ _ _ h => h) (Or.inl ⟨by rfl, fun w _ => by go_simp⟩) hS1 ?_
  simp only [Act.put, List.setIfInBounds_toArray, List.set_cons_zero, List.set_cons_succ]
  refine wpAnyH_take (i := 11) (v := .bool true) (List.getElem?_toArray.trans rfl) (by kernel_rfl) (by kernel_rfl) (by kernel_rfl) (fun _ _ _ h => h) (Or.inl ⟨by rfl, fun w _ => by rfl⟩) hS1 ?_
  simp only [Act.put, List.setIfInBounds_toArray, List.set_cons_zero, List.set_cons_succ]
  refine wpAnyH_take (i := 12) (v := .agg (bytesV (one 0)).toArray) (List.getElem?_toArray.trans rfl) (by kernel_rfl) (by kernel_rfl) (by kernel_rfl) (fun _ _ _ h => h) (yieldsIf_load_mid (by rfl) 28 _ rfl g6 0 rfl (bytesV (one 0)) _ (fun w h => range_upd hr h (fun h => h)) Try.underlying28 rfl hsz0) hS1 ?_
  simp only [Act.put, List.setIfInBounds_toArray, List.set_cons_zero, List.set_cons_succ]
  refine wpAnyH_ready (rs := [13]) (by kernel_rfl) (by simp) (AllReadyH.cons (List.getElem?_toArray.trans rfl) (fun K hK => ?_) AllReadyH.nil)
  go_simp
  refine (block_one 0 _).mono ?_
  rintro e w' ⟨rfl, hA⟩
  have hS2 := hS1.trans' hA
  refine hK.out _ _ hS2 (fun _ => ?_)
  try simp only [Act.put, List.setIfInBounds_toArray, List.set_cons_zero, List.set_cons_succ]
  refine wpAnyH_take (i := 14) (v := .bool true) (List.getElem?_toArray.trans rfl) (by kernel_rfl) (by kernel_rfl) (by kernel_rfl) (fun _ _ _ h => h) (Or.inl ⟨by rfl, fun w _ => run_value (q0 w)⟩) hS2 ?_
  simp only [Act.put, List.setIfInBounds_toArray, List.set_cons_zero, List.set_cons_succ]
  refine wpAnyH_take (i := 15) (v := .bool true) (List.getElem?_toArray.trans rfl) (by kernel_rfl) (by kernel_rfl) (by kernel_rfl) (fun _ _ _ h => h) (Or.inl ⟨by rfl, fun w _ => by go_simp⟩) hS2 ?_
  simp only [Act.put, List.setIfInBounds_toArray, List.set_cons_zero, List.set_cons_succ]
  refine wpAnyH_take (i := 16) (v := .bool true) (List.getElem?_toArray.trans rfl) (by kernel_rfl) (by kernel_rfl) (by kernel_rfl) (fun _ _ _ h => h) (Or.inl ⟨by rfl, fun w _ => by rfl⟩) hS2 ?_
  simp only [Act.put, List.setIfInBounds_toArray, List.set_cons_zero, List.set_cons_succ]
  refine wpAnyH_take (i := 17) (v := .pointer (some ⟨k, 0, none⟩)) (List.getElem?_toArray.trans rfl) (by kernel_rfl) (by kernel_rfl) (by kernel_rfl) (fun _ _ _ h => h) (Or.inl ⟨by rfl, fun w _ => by rfl⟩) hS2 ?_
  simp only [Act.put, List.setIfInBounds_toArray, List.set_cons_zero, List.set_cons_succ]
  refine wpAnyH_ready (rs := [18]) (by kernel_rfl) (by simp) (AllReadyH.cons (List.getElem?_toArray.trans rfl) (fun K hK => ?_) AllReadyH.nil)
  go_simp
  refine (writes_len k kn1 S3 1 _ (HD8.out.upd0 hS2) rfl (by omega)).mono ?_
  rintro e w' ⟨⟨ao, c, rfl⟩, hA⟩
  have hS3 := hS2.trans' hA
  refine hK.out _ _ hS3 (fun _ => ?_)
  try simp only [Act.put, List.setIfInBounds_toArray, List.set_cons_zero, List.set_cons_succ]
  refine wpAnyH_take (i := 19) (v := .int .i64 1) (List.getElem?_toArray.trans rfl) (by kernel_rfl) (by kernel_rfl) (by kernel_rfl) (fun _ _ _ h => h) (Or.inl ⟨by rfl, fun w _ => by go_simp⟩) hS3 ?_
  simp only [Act.put, List.setIfInBounds_toArray, List.set_cons_zero, List.set_cons_succ]
  refine wpAnyH_take (i := 20) (v := .bool true) (List.getElem?_toArray.trans rfl) (by kernel_rfl) (by kernel_rfl) (by kernel_rfl) (fun _ _ _ h => h) (Or.inl ⟨by rfl, fun w _ => by go_simp⟩) hS3 ?_
  simp only [Act.put, List.setIfInBounds_toArray, List.set_cons_zero, List.set_cons_succ]
  refine wpAnyH_take (i := 21) (v := .bool true) (List.getElem?_toArray.trans rfl) (by kernel_rfl) (by kernel_rfl) (by kernel_rfl) (fun _ _ _ h => h) (Or.inl ⟨by rfl, fun w _ => by go_simp⟩) hS3 ?_
  simp only [Act.put, List.setIfInBounds_toArray, List.set_cons_zero, List.set_cons_succ]
  refine wpAnyH_take (i := 22) (v := .bool true) (List.getElem?_toArray.trans rfl) (by kernel_rfl) (by kernel_rfl) (by kernel_rfl) (fun _ _ _ h => h) (Or.inl ⟨by rfl, fun w _ => by rfl⟩) hS3 ?_
  simp only [Act.put, List.setIfInBounds_toArray, List.set_cons_zero, List.set_cons_succ]
  refine wpAnyH_done (by kernel_rfl) ?_ _
  refine NoPanic.normal ?_
  have HF := Lib.hid (HU8.out.trans' hS3)
  go_wp2
  go_ret
  exact ⟨rfl, HF.out⟩
end Go.Proofs.Ytckgcfkahffibaa
