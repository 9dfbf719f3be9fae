import Derived.Test.YtaphlhggmdhffaaExtra
namespace Go.Proofs.Ytaphlhggmdhffaa
open Go.RowKit
set_option linter.unusedVariables false
set_option linter.unusedSimpArgs false
theorem lit_SS (L : Names) (hn : L.length ≤ 1000) (w : World) : SS (w.alloc (.cells (strV L).toArray 9)) (.slice (some ⟨w.heap.size, 0, none⟩) L.length L.length) L := by
  refine ⟨_, _, rfl, Nat.le_refl _, by omega, .inr ⟨_, _, rfl, fun i hi => ?_⟩⟩
  rw [cell_of_row _ w.heap.size (0 + i) (strV L).toArray 9 (0, 0) (heap_alloc_new w _)]
  have := strV_get L i hi
  simpa using this
theorem same_true (u v : Value) (A B : Names) (w : World) (hA : SS w u A) (hB : SS w v B) (h : A = B) : Calls Try.prog 10 #[u, v] w fun e w' => e = .returned (.bool true) ∧ Upd (fun _ => False) w w' := by
  refine (same_any u v A B w hA hB).mono ?_
  rintro e w' ⟨rfl, hu⟩
  exact ⟨by simp [h], hu⟩
theorem number_is (u : Value) (C : Names) (s : ByteArray) (n : Int) (hn : ∀ m, NumP C (La s) m → m = n) (hs : s.size ≤ 140737488351232) (w : World) (hC : CS w u C) :
    Calls Try.prog 11 #[u, .string s] w fun e w' => e = .returned (.int .i64 n) ∧ Upd (fun _ => False) w w' := by
  refine (number_any u C s hs w hC).mono ?_
  rintro e w' ⟨⟨m, rfl, hm⟩, hu⟩
  exact ⟨by rw [hn m hm], hu⟩
abbrev sA : ByteArray := ⟨#[65]⟩
abbrev sB : ByteArray := ⟨#[66]⟩
abbrev sC : ByteArray := ⟨#[67]⟩
abbrev mA : ByteArray := ⟨#[109, 46, 65]⟩
abbrev mB : ByteArray := ⟨#[109, 46, 66]⟩
abbrev mC : ByteArray := ⟨#[109, 46, 67]⟩
theorem casesAB : casesS [sA, sB] = [sA, sB] := by decide
theorem La_sA : La sA = sA := by decide
theorem La_sB : La sB = sB := by decide
theorem La_sC : La sC = sC := by decide
theorem La_mA : La mA = sA := by decide
theorem La_mB : La mB = sB := by decide
theorem La_mC : La mC = sC := by decide
theorem miss_known : missTo [sA, sB] [mB] 2 = [sA] := by decide
theorem twice_known : twiceTo [sA, mA] 2 = [mA] := by decide
theorem AB_ne : sA ≠ sB := by decide
theorem AC_ne : sA ≠ sC := by decide
theorem BC_ne : sB ≠ sC := by decide
theorem numP_fun {C : Names} {y : ByteArray} {a b : Int} (ha : NumP C y a) (hb : NumP C y b) : a = b := by
  rcases ha with ⟨rfl, ha⟩ | ⟨i, rfl, hi, hi'⟩ <;> rcases hb with ⟨rfl, hb⟩ | ⟨j, rfl, hj, hj'⟩
  · rfl
  · exact absurd (List.mem_of_getElem? hj) ha
  · exact absurd (List.mem_of_getElem? hi) hb
  · rcases Nat.lt_trichotomy i j with h | h | h
    · exact absurd (List.mem_of_getElem? (i := i) (by rw [List.getElem?_take_of_lt h]; exact hi)) hj'
    · rw [h]
    · exact absurd (List.mem_of_getElem? (i := j) (by rw [List.getElem?_take_of_lt h]; exact hj)) hi'
theorem sz_small {L : Names} (h : ∀ s ∈ L, s.size ≤ 1000) : Sz L := fun s hs => Nat.le_trans (h s hs) (by omega)
theorem size_dec (s : ByteArray) (h : s.size ≤ 1000) : s.size ≤ 140737488351232 := by omega
set_option maxHeartbeats 4000000 in
set_option maxRecDepth 100000 in
theorem known_any (w : World) : Calls Try.prog 13 #[] w fun e w' => e = .returned (.bool true) ∧ Upd (fun _ => False) w w' := by
  go_enter Try.func13, Try.ntmps13
  go_wp2_with fail
  refine (cases_any _ [sA, sB] _ (lit_SS [sA, sB] (by decide) w) (sz_small (by decide))).mono ?_
  rintro e w1 ⟨V, rfl, hC, hu⟩
  have HU := Lib.hid (((Upd.refl (fun _ => False) w).alloc _).trans' hu)
  rw [casesAB] at hC
  have HC := Lib.hid (hC.upd ((Upd.refl (fun _ => False) w1).alloc (.cells (strV [mB]).toArray 9)))
  clear hC hu
  go_wp2_with fail
  refine (missing_any _ _ [sA, sB] [mB] _ HC.out (sz_small (by decide)) (by decide) (lit_SS [mB] (by decide) w1) (sz_small (by decide)) (by decide)).mono ?_
  rintro e w2 ⟨V2, rfl, hS, hu⟩
  have HU := Lib.hid (HU.out.trans' (((Upd.refl (fun _ => False) w1).alloc _).trans' hu))
  have HS := Lib.hid (hS.upd ((Upd.refl (fun _ => False) w2).alloc (.cells (strV [sA]).toArray 9)))
  clear hS hu
  go_wp2_with fail
  refine (same_true _ _ _ [sA] _ HS.out (lit_SS [sA] (by decide) w2) miss_known).mono ?_
  rintro e w3 ⟨rfl, hu⟩
  have HU := Lib.hid (HU.out.trans' (((Upd.refl (fun _ => False) w2).alloc _).trans' hu))
  clear hu
  go_wp2_with fail
  refine (twice_any _ [sA, mA] _ (lit_SS [sA, mA] (by decide) w3) (sz_small (by decide)) (by decide)).mono ?_
  rintro e w4 ⟨V4, rfl, hS, hu⟩
  have HU := Lib.hid (HU.out.trans' (((Upd.refl (fun _ => False) w3).alloc _).trans' hu))
  have HS := Lib.hid (hS.upd ((Upd.refl (fun _ => False) w4).alloc (.cells (strV [mA]).toArray 9)))
  clear hS hu
  go_wp2_with fail
  refine (same_true _ _ _ [mA] _ HS.out (lit_SS [mA] (by decide) w4) twice_known).mono ?_
  rintro e w5 ⟨rfl, hu⟩
  have HU := Lib.hid (HU.out.trans' (((Upd.refl (fun _ => False) w4).alloc _).trans' hu))
  clear hu
  go_wp2_with fail
  refine (cases_any _ [sA, sB] _ (lit_SS [sA, sB] (by decide) w5) (sz_small (by decide))).mono ?_
  rintro e w6 ⟨V6, rfl, hC, hu⟩
  have HU := Lib.hid (HU.out.trans' (((Upd.refl (fun _ => False) w5).alloc _).trans' hu))
  rw [casesAB] at hC
  have HC := Lib.hid hC
  clear hC hu
  go_wp2_with fail
  refine (number_is _ [sA, sB] sB 1 (fun m hm => numP_fun hm (.inr ⟨1, rfl, by rw [La_sB]; rfl, by rw [La_sB]; simp⟩)) (size_dec _ (by decide)) _ HC.out).mono ?_
  rintro e w7 ⟨rfl, hu⟩
  have HU := Lib.hid (HU.out.trans' hu)
  clear hu
  go_wp2_with fail
  go_ret
  exact ⟨rfl, HU.out⟩
end Go.Proofs.Ytaphlhggmdhffaa
