import Derived.Test.YtckgcfkahffibaaLaw24
namespace Go.Proofs.Ytckgcfkahffibaa
open Go.RowKit
set_option linter.unusedVariables false
set_option linter.unusedSimpArgs false
set_option maxHeartbeats 2000000 in
set_option maxRecDepth 100000 in
theorem right_bad (k : Nat) (v : Value) (x : Nat × List UInt8) (w : World) (hv : WlR w v [x]) (hx : x.1 < 25) :
    Calls Try.prog 30 #[.pointer (some ⟨k, 0, none⟩), v] w fun e w' => e = .returned (.int .i64 1) ∧ Upd (fun _ => False) w w' := by
  obtain ⟨ao, cap, rfl, hcap, hl, hr⟩ := hv
  obtain ⟨g, o, rfl, hra⟩ : ∃ g o, ao = some ⟨g, o, none⟩ ∧ w.rangeAt g o (wcells x) := by
    rcases hr with h | ⟨g, o, h, hr⟩
    · cases h
    · refine ⟨g, o, h, ?_⟩
      have := hr 0 (by simp)
      simpa using this
  have hxg := hl x (by simp)
  have HR := Lib.hid hra
  have HXG := Lib.hid hxg
  have HWL := Lib.hid (show (Try.prog.info? 33).map (·.size) = some (wcells x).length by rw [wcells_len hxg.2]; exact size33)
  have hone : [x].length = 1 := rfl
  rw [hone]
  rw [hone] at hcap
  have hcapI : (1 : Int) ≤ (cap : Int) := by omega
  obtain ⟨Z, hZ, hz0, hz67⟩ := zero67
  have HX25 := Lib.hid hx
  clear hr hra hl hxg hone hZ hz0 hx
  go_enter Try.func30, Try.ntmps30
  go_wp2_with fail
  have HU0 := Lib.hid ((Upd.refl (fun _ => False) w).alloc (.cells Z 67))
  have HR1 := Lib.hid (range_upd HR.out HU0.out (fun h => h))
  generalize w.heap.size = g5 at *
  generalize w.alloc (.cells Z 67) = w1 at *
  go_loopw [12] (fun i wr => i = .int .i64 0 ∧ wr = w1) (fun _ _ => 0)
  case atStart => exact ⟨rfl, rfl⟩
  case round =>
    obtain ⟨rfl, rfl⟩ := hrel
    go_wp2_with (first | (refine wpList_load_mid rfl 33 (.tmp 14) rfl g o (by rfl) (wcells x) _ HR1.out Try.underlying33 rfl HWL.out ?_) | (refine wpList_var33 (by rfl) (by rfl) 7 (.tmp 15) (by rfl) (by rfl) (by rfl) x HXG.out.2 (by rfl) (by rfl) ?_))
    intro w2 hu hr7
    have HU2 := Lib.hid (HU0.out.trans' hu)
    generalize wr.heap.size = g7 at *
    have c7 : w2.cell? ⟨g7, 0, none⟩ = some (.int .i64 (x.1 : Int)) := by have := hr7 0 _ rfl; rwa [Nat.zero_add] at this
    have HE3 := Lib.hid (show decide ((25 : Int) ≤ (x.1 : Int) ∧ (x.1 : Int) < 255) = false from decide_eq_false (fun h => by have := HX25.out; omega))
    generalize x.1 = xi at *
    clear hr7 hu
    go_wp2_with fail
    refine (free_any (xi : Int) w2).mono ?_
    rintro e w2 ⟨rfl, rfl⟩
    rw [HE3.out]
    go_wp2_with fail
    go_ret
    exact ⟨rfl, HU2.out⟩
set_option maxHeartbeats 2000000 in
set_option maxRecDepth 100000 in
theorem apply_bad (k : Nat) (v : Value) (x : Nat × List UInt8) (w : World) (hv : WlR w v [x]) (hx : x.1 < 25) :
    Calls Try.prog 23 #[.pointer (some ⟨k, 0, none⟩), v] w fun e w' => e = .returned (.int .i64 1) ∧ Upd (fun _ => False) w w' := by
  go_enter Try.func23, Try.ntmps23
  go_wp2_with fail
  refine wp_scope_fam (fun _ => none) (fun _ _ _ => False) (fun _ _ _ => 0) (fun _ _ h => by cases h) ?first (fun _ _ _ _ h => by cases h)
  case first =>
  go_wp2_with fail
  refine (right_bad k v x w hv hx).mono ?_
  rintro e w1 ⟨rfl, hu⟩
  have HU := Lib.hid hu
  clear hu
  go_wp2_with fail
  rw [fam_ret]
  go_ret
  exact ⟨rfl, HU.out⟩
/-- A list of one write, just made. -/
theorem WlR.lit {w : World} {x : Nat × List UInt8} (hx : x.1 < 255 ∧ x.2.length = 64) : WlR (w.alloc (.cells (wcells x).toArray 33)) (.slice (some ⟨w.heap.size, 0, none⟩) 1 1) [x] := by
  refine ⟨_, 1, rfl, by simp, fun y hy => by rw [List.mem_singleton.1 hy]; exact hx, .inr ⟨w.heap.size, 0, rfl, fun i hi => ?_⟩⟩
  have h0 : i = 0 := by simp at hi; omega
  subst h0
  have := range_row (heap_alloc_new w (.cells (wcells x).toArray 33))
  simpa using this
theorem blk_X {X : List UInt8} {b : UInt8} (h : X = blk2 b) (w : World) : Calls Try.prog 29 #[.int .u8 b.toNat] w fun e w' => e = .returned (.agg (bytesV X).toArray) ∧ Upd (fun _ => False) w w' := by rw [h]; exact blk2_any b w
theorem free_t (i : Int) (r : Bool) (h : decide (25 ≤ i ∧ i < 255) = r) (w : World) : Calls Try.prog 31 #[.int .i64 i] w fun e w' => e = .returned (.bool r) ∧ w' = w := by rw [← h]; exact free_any i w
theorem kn_app (X : List UInt8) (hX : X.length = 64) : (DS.new.app [(30, X)]).1 = 0 ∧ (DS.new.app [(30, X)]).2.rd 30 = X ∧ (DS.new.app [(30, X)]).2.may 30 = 0 := by
  have hg : Good [(30, X)] := ⟨fun y hy => by rw [List.mem_singleton.1 hy]; exact ⟨(by omega : 25 ≤ 30), (by omega : 30 < 255), hX⟩, by simp, by simp⟩
  rw [app_quiet (d := DS.new) ⟨rfl, rfl⟩ rfl hg]
  have hm : ({ DS.new with bl := laid DS.new.bl (fullW [(30, X)]), ws := DS.new.ws ++ fullW [(30, X)] } : DS).may ((30 : Nat) : Int) = 0 := may_ok (by omega) rfl
  refine ⟨rfl, ?_, hm⟩
  show DS.rd _ ((30 : Nat) : Int) = X
  unfold DS.rd
  rw [if_pos hm]
  show laid DS.new.bl (fullW [(30, X)]) 30 = X
  rw [fullW_free (by simp) 30 (by omega)]
  rfl
set_option maxHeartbeats 4000000 in
set_option maxRecDepth 100000 in
theorem known24_any (w : World) : Calls Try.prog 25 #[] w fun e w' => e = .returned (.bool true) ∧ Upd (fun _ => False) w w' := by
  obtain ⟨X, hX⟩ : ∃ X, X = blk2 1 := ⟨_, rfl⟩
  have hXl : X.length = 64 := by rw [hX, blk2_len]
  have HXE := Lib.hid hX
  have HXL := Lib.hid hXl
  have HBL := Lib.hid (show (bytesV X).length = 64 by rw [bytesV_length, hXl])
  have HVL := Lib.hid (wcells_len (x := (30, X)) hXl)
  have HVL3 := Lib.hid (wcells_len (x := (3, X)) hXl)
  have HG := Lib.hid (show Good [(30, X)] from ⟨fun y hy => by rw [List.mem_singleton.1 hy]; exact ⟨(by omega : 25 ≤ 30), (by omega : 30 < 255), hXl⟩, by simp, by simp⟩)
  have HKA := Lib.hid (kn_app X hXl)
  clear hX hXl
  go_enter Try.func25, Try.ntmps25
  go_wp2_with fail
  refine (new_dsk w).mono ?_
  rintro e w1 ⟨k, S, rfl, hd, hs, hu⟩
  have HD1 := Lib.hid hd
  have HS1 := Lib.hid hs
  have HU1 := Lib.hid hu
  clear hd hs hu
  go_wp2_with fail
  refine (blk_X HXE.out w1).mono ?_
  rintro e w2 ⟨rfl, hu⟩
  have HD2 := Lib.hid (HD1.out.upd0 hu)
  have HU2 := Lib.hid (HU1.out.trans' hu)
  clear hu
  go_wp2_with (first
    | (refine wpList_run rfl (run_value (by rw [List.map_toArray]; exact built33 30 (bytesV X) HBL.out _)) ?_)
    | (refine wpList_run rfl (run_value (by rw [List.map_toArray]; exact builtSlice33 (wcells (30, X)) HVL.out _)) ?_))
  refine (apply_dsk k DS.new S _ (HD2.out.upd0 ((Upd.refl _ w2).alloc _)) (by decide) _ [(30, X)] (WlR.lit ⟨(by omega : 30 < 255), HXL.out⟩) (fun j hj => by
    simp [Value.ownBlock] at hj
    subst hj
    exact ⟨fun h => by have := HD2.out.lt _ h; omega, by simp⟩) HG.out).mono ?_
  rintro e w3 ⟨rfl, S3, hd, hA, hs⟩
  rw [HKA.out.1]
  have HD3 := Lib.hid hd
  have HU3 := Lib.hid ((HU2.out.alloc (.cells (wcells (30, X)).toArray 33)).trans hA (fun j hj h => by have := HS1.out j h; omega))
  clear hd hA hs
  go_wp2_with fail
  refine (read_dsk k _ S3 30 w3 HD3.out).mono ?_
  rw [HKA.out.2.1, HKA.out.2.2]
  rintro e w4 ⟨rfl, hu⟩
  have HU4 := Lib.hid (HU3.out.trans' hu)
  clear hu
  go_wp2_with (refine wpList_var28 (by rfl) (by rfl) 3 (.tmp 17) (by rfl) (by rfl) (by rfl) X HXL.out (by rfl) (by rfl) ?c1)
  case c1 =>
  intro w5 hu hr
  have HU5 := Lib.hid (HU4.out.trans' hu)
  have HR5 := Lib.hid hr
  generalize w4.heap.size = g3 at *
  clear hu hr
  go_wp2_with fail
  refine (blk_X HXE.out w5).mono ?_
  rintro e w6 ⟨rfl, hu⟩
  have HU6 := Lib.hid (HU5.out.trans' hu)
  have HR6 := Lib.hid (range_upd HR5.out hu (fun h => h))
  clear hu
  go_wp2_with (first
    | (refine wpList_run rfl (run_value (by rw [List.map_toArray]; exact built33 3 (bytesV X) HBL.out _)) ?_)
    | (refine wpList_run rfl (run_value (by rw [List.map_toArray]; exact builtSlice33 (wcells (3, X)) HVL3.out _)) ?_))
  refine (apply_bad k _ (3, X) _ (WlR.lit ⟨(by omega : 3 < 255), HXL.out⟩) (by omega : 3 < 25)).mono ?_
  rintro e w8 ⟨rfl, hu⟩
  have HU8 := Lib.hid ((HU6.out.alloc (.cells (wcells (3, X)).toArray 33)).trans' hu)
  have HR8 := Lib.hid (range_upd HR6.out (((Upd.refl (fun _ => False) w6).alloc _).trans' hu) (fun h => h))
  have HSZ := Lib.hid (show (Try.prog.info? 28).map (·.size) = some (bytesV X).length by rw [HBL.out]; exact size28)
  have qX : ∀ w, (binOp .eql 28 (.agg (bytesV X).toArray) (.agg (bytesV X).toArray)).run Try.prog w = .ok (.bool true) w := fun w => by rw [eql_block _ _ HXL.out HXL.out]; simp
  clear hu
  go_wp2_with fail
  refine wp_region_noPanic ?_
  have hS0 : Upd (fun _ => False) w8 w8.drew := (Upd.refl _ w8).drew
  refine wp_region_held (S := fun wx => Upd (fun _ => False) w8 wx) (by kernel_rfl) ?_
  refine wpAnyH_take (i := 0) (v := .int .i64 0) (List.getElem?_toArray.trans rfl) (by kernel_rfl) (by kernel_rfl) (by kernel_rfl) (fun _ _ _ h => h) (Or.inl ⟨by rfl, fun w _ => by rfl⟩) hS0 ?_
  simp only [Act.put, List.setIfInBounds_toArray, List.set_cons_zero, List.set_cons_succ]
  refine wpAnyH_take (i := 1) (v := .bool true) (List.getElem?_toArray.trans rfl) (by kernel_rfl) (by kernel_rfl) (by kernel_rfl) (fun _ _ _ h => h) (Or.inl ⟨by rfl, fun w _ => by go_simp⟩) hS0 ?_
  simp only [Act.put, List.setIfInBounds_toArray, List.set_cons_zero, List.set_cons_succ]
  refine wpAnyH_take (i := 2) (v := .bool true) (List.getElem?_toArray.trans rfl) (by kernel_rfl) (by kernel_rfl) (by kernel_rfl) (fun _ _ _ h => h) (Or.inl ⟨by rfl, fun w _ => by rfl⟩) hS0 ?_
  simp only [Act.put, List.setIfInBounds_toArray, List.set_cons_zero, List.set_cons_succ]
  refine wpAnyH_take (i := 3) (v := .agg (bytesV X).toArray) (List.getElem?_toArray.trans rfl) (by kernel_rfl) (by kernel_rfl) (by kernel_rfl) (fun _ _ _ h => h) (yieldsIf_load_mid (by rfl) 28 _ rfl g3 0 rfl (bytesV X) _ (fun w h => range_upd HR8.out h (fun h => h)) Try.underlying28 rfl HSZ.out) hS0 ?_
  simp only [Act.put, List.setIfInBounds_toArray, List.set_cons_zero, List.set_cons_succ]
  refine wpAnyH_ready (rs := [4]) (by kernel_rfl) (by simp) (AllReadyH.cons (List.getElem?_toArray.trans rfl) (fun K hK => ?_) AllReadyH.nil)
  go_simp
  refine (blk_X HXE.out _).mono ?_
  rintro e w' ⟨rfl, hA⟩
  have hS1 := hS0.trans' hA
  refine hK.out _ _ hS1 (fun _ => ?_)
  try simp only [Act.put, List.setIfInBounds_toArray, List.set_cons_zero, List.set_cons_succ]
  refine wpAnyH_take (i := 5) (v := .bool true) (List.getElem?_toArray.trans rfl) (by kernel_rfl) (by kernel_rfl) (by kernel_rfl) (fun _ _ _ h => h) (Or.inl ⟨by rfl, fun w _ => run_value (qX w)⟩) hS1 ?_
  simp only [Act.put, List.setIfInBounds_toArray, List.set_cons_zero, List.set_cons_succ]
  refine wpAnyH_take (i := 6) (v := .bool true) (List.getElem?_toArray.trans rfl) (by kernel_rfl) (by kernel_rfl) (by kernel_rfl) (fun _ _ _ h => h) (Or.inl ⟨by rfl, fun w _ => by go_simp⟩) hS1 ?_
  simp only [Act.put, List.setIfInBounds_toArray, List.set_cons_zero, List.set_cons_succ]
  refine wpAnyH_take (i := 7) (v := .bool true) (List.getElem?_toArray.trans rfl) (by kernel_rfl) (by kernel_rfl) (by kernel_rfl) (fun _ _ _ h => h) (Or.inl ⟨by rfl, fun w _ => by rfl⟩) hS1 ?_
  simp only [Act.put, List.setIfInBounds_toArray, List.set_cons_zero, List.set_cons_succ]
  refine wpAnyH_take (i := 8) (v := .int .i64 1) (List.getElem?_toArray.trans rfl) (by kernel_rfl) (by kernel_rfl) (by kernel_rfl) (fun _ _ _ h => h) (Or.inl ⟨by rfl, fun w _ => by rfl⟩) hS1 ?_
  simp only [Act.put, List.setIfInBounds_toArray, List.set_cons_zero, List.set_cons_succ]
  refine wpAnyH_take (i := 9) (v := .bool true) (List.getElem?_toArray.trans rfl) (by kernel_rfl) (by kernel_rfl) (by kernel_rfl) (fun _ _ _ h => h) (Or.inl ⟨by rfl, fun w _ => by go_simp⟩) hS1 ?_
  simp only [Act.put, List.setIfInBounds_toArray, List.set_cons_zero, List.set_cons_succ]
  refine wpAnyH_take (i := 10) (v := .bool true) (List.getElem?_toArray.trans rfl) (by kernel_rfl) (by kernel_rfl) (by kernel_rfl) (fun _ _ _ h => h) (Or.inl ⟨by rfl, fun w _ => by go_simp⟩) hS1 ?_
  simp only [Act.put, List.setIfInBounds_toArray, List.set_cons_zero, List.set_cons_succ]
  refine wpAnyH_take (i := 11) (v := .bool true) (List.getElem?_toArray.trans rfl) (by kernel_rfl) (by kernel_rfl) (by kernel_rfl) (fun _ _ _ h => h) (Or.inl ⟨by rfl, fun w _ => by rfl⟩) hS1 ?_
  simp only [Act.put, List.setIfInBounds_toArray, List.set_cons_zero, List.set_cons_succ]
  refine wpAnyH_ready (rs := [12]) (by kernel_rfl) (by simp) (AllReadyH.cons (List.getElem?_toArray.trans rfl) (fun K hK => ?_) AllReadyH.nil)
  go_simp
  refine (free_t 25 true rfl _).mono ?_
  rintro e w' ⟨rfl, rfl⟩
  have hS2 := hS1.trans' (Upd.refl _ _)
  refine hK.out _ _ hS2 (fun _ => ?_)
  try simp only [Act.put, List.setIfInBounds_toArray, List.set_cons_zero, List.set_cons_succ]
  refine wpAnyH_take (i := 13) (v := .bool true) (List.getElem?_toArray.trans rfl) (by kernel_rfl) (by kernel_rfl) (by kernel_rfl) (fun _ _ _ h => h) (Or.inl ⟨by rfl, fun w _ => by go_simp⟩) hS2 ?_
  simp only [Act.put, List.setIfInBounds_toArray, List.set_cons_zero, List.set_cons_succ]
  refine wpAnyH_take (i := 14) (v := .bool true) (List.getElem?_toArray.trans rfl) (by kernel_rfl) (by kernel_rfl) (by kernel_rfl) (fun _ _ _ h => h) (Or.inl ⟨by rfl, fun w _ => by rfl⟩) hS2 ?_
  simp only [Act.put, List.setIfInBounds_toArray, List.set_cons_zero, List.set_cons_succ]
  refine wpAnyH_ready (rs := [15]) (by kernel_rfl) (by simp) (AllReadyH.cons (List.getElem?_toArray.trans rfl) (fun K hK => ?_) AllReadyH.nil)
  go_simp
  refine (free_t 24 false rfl _).mono ?_
  rintro e w' ⟨rfl, rfl⟩
  have hS3 := hS2.trans' (Upd.refl _ _)
  refine hK.out _ _ hS3 (fun _ => ?_)
  try simp only [Act.put, List.setIfInBounds_toArray, List.set_cons_zero, List.set_cons_succ]
  refine wpAnyH_take (i := 16) (v := .bool true) (List.getElem?_toArray.trans rfl) (by kernel_rfl) (by kernel_rfl) (by kernel_rfl) (fun _ _ _ h => h) (Or.inl ⟨by rfl, fun w _ => by go_simp⟩) hS3 ?_
  simp only [Act.put, List.setIfInBounds_toArray, List.set_cons_zero, List.set_cons_succ]
  refine wpAnyH_take (i := 17) (v := .bool true) (List.getElem?_toArray.trans rfl) (by kernel_rfl) (by kernel_rfl) (by kernel_rfl) (fun _ _ _ h => h) (Or.inl ⟨by rfl, fun w _ => by go_simp⟩) hS3 ?_
  simp only [Act.put, List.setIfInBounds_toArray, List.set_cons_zero, List.set_cons_succ]
  refine wpAnyH_take (i := 18) (v := .bool true) (List.getElem?_toArray.trans rfl) (by kernel_rfl) (by kernel_rfl) (by kernel_rfl) (fun _ _ _ h => h) (Or.inl ⟨by rfl, fun w _ => by rfl⟩) hS3 ?_
  simp only [Act.put, List.setIfInBounds_toArray, List.set_cons_zero, List.set_cons_succ]
  refine wpAnyH_done (by kernel_rfl) ?_ _
  refine NoPanic.normal ?_
  have HF := Lib.hid (HU8.out.trans' hS3)
  go_wp2
  go_ret
  exact ⟨rfl, HF.out⟩
end Go.Proofs.Ytckgcfkahffibaa
