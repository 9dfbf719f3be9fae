import Derived.Test.YtbpeoclhabgcgaaNumE
/-
  CHAPTER 13'S RUNS: known, which every statement of the chapter asks.
-/
namespace Go.Proofs.Ytbpeoclhabgcgaa
open Go.RowKit
set_option linter.unusedVariables false
set_option linter.unusedSimpArgs false
theorem Ints_new (w : World) (l : List Int) (hm : l.length ≤ maxLen) : Ints (w.alloc (.cells (intsV l).toArray 3)) (.slice (some ⟨w.heap.size, 0, none⟩) l.length l.length) l := by
  refine ⟨_, _, rfl, Nat.le_refl _, hm, .inr ⟨w.heap.size, 0, rfl, fun i hi => ?_⟩⟩
  rw [Nat.zero_add, cell_of_row _ _ i _ 3 (0, 0) (heap_alloc_new w _)]
  simp [intsV, hi]
set_option maxHeartbeats 16000000 in
set_option maxRecDepth 100000 in
/-- hawserlaw13.known. -/
theorem known13 (w : World) : Calls Try.prog 46 #[] w fun e w' => e = .returned (.bool true) ∧ Upd (fun _ => False) w w' := by
  go_enter Try.func46, Try.ntmps46
  go_wp2_with fail
  refine (enc_ok _ _ (heap_alloc_new w _)).mono ?_
  rintro e w1 ⟨V1, rfl, hb1, hu1⟩
  have HU1 := Lib.hid (((Upd.refl (fun _ => False) w).alloc _).trans' hu1)
  have HB1 := Lib.hid hb1
  clear hb1 hu1
  go_wp2_with fail
  refine (dec_is (Bytes_new w1 [5, 0, 0] (by decide)) (by decide) out_jump).mono ?_
  rintro e w2 ⟨hu2, V2, hi2, rfl⟩
  have HU2 := Lib.hid (HU1.out.trans' (((Upd.refl (fun _ => False) w1).alloc _).trans' hu2))
  have HB2 := Lib.hid (Bytes_upd HB1.out (((Upd.refl (fun _ => False) w1).alloc _).trans' hu2) (fun _ _ e => e))
  have HI2 := Lib.hid hi2
  clear hi2 hu2 HB1
  go_wp2_with fail
  refine (dec_is (Bytes_new w2 [5] (by decide)) (by decide) out_cut).mono ?_
  rintro e w3 ⟨hu3, V3, hi3, rfl⟩
  have hu3' := ((Upd.refl (fun _ => False) w2).alloc (.cells (bytesV [5]).toArray 5)).trans' hu3
  have HU3 := Lib.hid (HU2.out.trans' hu3')
  have HB3 := Lib.hid (Bytes_upd HB2.out hu3' (fun _ _ e => e))
  have HI3 := Lib.hid (HI2.out.upd hu3')
  clear hu3 hu3' HI2 HB2 hi3
  obtain ⟨ao, cap, rfl, _, _, hil⟩ := HI3.out
  obtain ⟨b, off, rfl, hill⟩ := hil.resolve_left (by simp)
  obtain ⟨vt, hrg, hit⟩ := hill 0 (by decide)
  have c6 : w3.cell? ⟨b, off + 6, none⟩ = some vt := by
    have := hrg 6 vt rfl
    simpa using this
  have HIT := Lib.hid (show Ints w3 vt [3] from hit)
  obtain ⟨at2, ct2, rfl, _, _, _⟩ := hit
  clear hil hill hrg
  have hs : (convert 27 9 V1).run Try.prog w3 = .ok (.string ⟨#[1, 6, 1, 15]⟩) w3 := str_of HB3.out
  go_wp2_with fail
  refine (sameI_eq _ _ [3] _ (HIT.out.upd ((Upd.refl (fun _ => False) w3).alloc (.cells #[.int .i64 3] 3)) (fun _ _ e => e)) (Ints_new w3 [3] (by decide))).mono ?_
  rintro e w4 ⟨rfl, n, rfl⟩
  go_wp2_with fail
  go_ret
  exact ⟨rfl, (HU3.out.alloc _).drewN n⟩
end Go.Proofs.Ytbpeoclhabgcgaa
