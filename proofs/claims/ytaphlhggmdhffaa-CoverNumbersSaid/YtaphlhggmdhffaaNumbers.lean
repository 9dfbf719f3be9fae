import Derived.Test.YtaphlhggmdhffaaKnown
namespace Go.Proofs.Ytaphlhggmdhffaa
open Go.RowKit
set_option linter.unusedVariables false
set_option linter.unusedSimpArgs false
theorem SS_nil (w : World) : SS w (.slice none 0 0) [] := ⟨none, 0, rfl, Nat.le_refl _, by omega, .inl rfl⟩
theorem CS_nil (w : World) : CS w (.slice none 0 0) [] := ⟨none, 0, rfl, Nat.le_refl _, by omega, .inl rfl⟩
theorem n1 : missTo [] [sA] 0 = [] := by decide
theorem n2 : extraTo [sA, sB] [sA] 1 = [] := by decide
theorem n3 : extraTo [sA, sB] [mC, sB] 2 = [mC] := by decide
theorem n4 : sC ∉ [sA, sB] := by
  intro h
  simp only [List.mem_cons, List.not_mem_nil, or_false] at h
  rcases h with h | h
  · exact AC_ne h.symm
  · exact BC_ne h.symm
theorem SS.len0 {w : World} {v : Value} (h : SS w v []) : ∃ ao cap, v = .slice ao 0 cap := by
  obtain ⟨ao, cap, rfl, _⟩ := h; exact ⟨ao, cap, rfl⟩
set_option maxHeartbeats 4000000 in
set_option maxRecDepth 100000 in
theorem numbers_any (w : World) : Calls Try.prog 3 #[] w fun e w' => e = .returned (.bool true) ∧ Upd (fun _ => False) w w' := by
  go_enter Try.func3, Try.ntmps3
  go_wp2_with fail
  refine (cases_any _ [sA, sB] _ (lit_SS [sA, sB] (by decide) w) (sz_small (by decide))).mono ?_
  rintro e w1 ⟨V, rfl, hC, hu⟩
  have HU := Lib.hid (((Upd.refl (fun _ => False) w).alloc _).trans' hu)
  rw [casesAB] at hC
  have HC := Lib.hid (hC.upd ((Upd.refl (fun _ => False) w1).alloc (.cells (strV [sA]).toArray 9)))
  clear hC hu
  go_wp2_with fail
  refine (missing_any _ _ [] [sA] _ (CS_nil _) (by intro s h; simp at h) (by decide) (lit_SS [sA] (by decide) w1) (sz_small (by decide)) (by decide)).mono ?_
  rintro e w2 ⟨V2, rfl, hS, hu⟩
  rw [show missTo [] [sA] (List.length ([] : Names)) = [] from n1] at hS
  obtain ⟨a2, c2, rfl⟩ := hS.len0
  have HU := Lib.hid (HU.out.trans' (((Upd.refl (fun _ => False) w1).alloc _).trans' hu))
  have HC := Lib.hid ((HC.out.upd hu).upd ((Upd.refl (fun _ => False) w2).alloc (.cells (strV [sA]).toArray 9)))
  clear hS hu
  go_wp2_with fail
  refine (extra_any _ _ [sA, sB] [sA] _ HC.out (lit_SS [sA] (by decide) w2) (sz_small (by decide)) (by decide)).mono ?_
  rintro e w3 ⟨V3, rfl, hS, hu⟩
  rw [show extraTo [sA, sB] [sA] (List.length [sA]) = [] from n2] at hS
  obtain ⟨a3, c3, rfl⟩ := hS.len0
  have HU := Lib.hid (HU.out.trans' (((Upd.refl (fun _ => False) w2).alloc _).trans' hu))
  have HC := Lib.hid ((HC.out.upd hu).upd ((Upd.refl (fun _ => False) w3).alloc (.cells (strV [mC, sB]).toArray 9)))
  clear hS hu
  go_wp2_with fail
  refine (extra_any _ _ [sA, sB] [mC, sB] _ HC.out (lit_SS [mC, sB] (by decide) w3) (sz_small (by decide)) (by decide)).mono ?_
  rintro e w4 ⟨V4, rfl, hS, hu⟩
  have HU := Lib.hid (HU.out.trans' (((Upd.refl (fun _ => False) w3).alloc _).trans' hu))
  have HC := Lib.hid ((HC.out.upd hu).upd ((Upd.refl (fun _ => False) w4).alloc (.cells (strV [mC]).toArray 9)))
  have HS := Lib.hid (hS.upd ((Upd.refl (fun _ => False) w4).alloc (.cells (strV [mC]).toArray 9)))
  clear hS hu
  go_wp2_with fail
  refine (same_true _ _ _ [mC] _ HS.out (lit_SS [mC] (by decide) w4) n3).mono ?_
  rintro e w5 ⟨rfl, hu⟩
  have HU := Lib.hid (HU.out.trans' (((Upd.refl (fun _ => False) w4).alloc _).trans' hu))
  have HC := Lib.hid (HC.out.upd hu)
  clear hu
  go_wp2_with fail
  refine (number_is _ [sA, sB] sC (-1) (fun m hm => numP_fun hm (.inl ⟨rfl, by rw [La_sC]; exact n4⟩)) (size_dec _ (by decide)) _ HC.out).mono ?_
  rintro e w6 ⟨rfl, hu⟩
  have HU := Lib.hid (HU.out.trans' hu)
  have HC := Lib.hid (HC.out.upd hu)
  clear hu
  go_wp2_with fail
  refine (number_is _ [sA, sB] mA 0 (fun m hm => numP_fun hm (.inr ⟨0, rfl, by rw [La_mA]; rfl, by simp⟩)) (size_dec _ (by decide)) _ HC.out).mono ?_
  rintro e w7 ⟨rfl, hu⟩
  have HU := Lib.hid (HU.out.trans' hu)
  clear hu
  go_wp2_with fail
  refine (twice_any _ [] _ (SS_nil _) (by intro s h; simp at h) (by decide)).mono ?_
  rintro e w8 ⟨V8, rfl, hS, hu⟩
  obtain ⟨a8, c8, rfl⟩ := hS.len0
  have HU := Lib.hid (HU.out.trans' hu)
  clear hS hu
  go_wp2_with fail
  refine (known_any _).mono ?_
  rintro e w9 ⟨rfl, hu⟩
  have HU := Lib.hid (HU.out.trans' hu)
  clear hu
  go_wp2_with fail
  go_ret
  exact ⟨rfl, HU.out⟩
end Go.Proofs.Ytaphlhggmdhffaa
