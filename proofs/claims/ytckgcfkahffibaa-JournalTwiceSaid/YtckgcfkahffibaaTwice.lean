import Derived.Test.YtckgcfkahffibaaBag2
import Derived.Test.YtckgcfkahffibaaCuts
namespace Go.Proofs.Ytckgcfkahffibaa
open Go.RowKit
set_option linter.unusedVariables false
set_option linter.unusedSimpArgs false
set_option maxHeartbeats 4000000 in
set_option maxRecDepth 100000 in
theorem twice_any (v0 v1 : Value) (n0 : Int) (L0 L1 : List (Int × UInt8)) (w : World) (hI0 : IB w 2 0 1 v0 L0) (hm0 : L0.length ≤ 9223372036854775807) (hI1 : IB w 2 0 1 v1 L1) (hm1 : L1.length ≤ 9223372036854775807) (h1 : -9223372036854775808 ≤ n0) (h2 : n0 ≤ 9223372036854775807) : Calls Try.prog 10 #[v0, v1, .int .i64 n0] w fun e w' => e = .returned (.bool true) ∧ Upd (fun _ => False) w w' := by
  have HI0 := Lib.hid hI0
  have HI1 := Lib.hid hI1
  have HM0 := Lib.hid hm0
  have HM1 := Lib.hid hm1
  have HN0 := Lib.hid (And.intro h1 h2)
  clear hI0 hI1 hm0 hm1 h1 h2
  go_enter Try.func10, Try.ntmps10
  go_wp2_with fail
  refine (new_dsk w).mono ?_
  rintro e w1 ⟨k, S, rfl, hd, hs, hu⟩
  have HB := Lib.hid (Bag.new hd hs hu)
  clear hd hs hu
  go_wp2_with fail
  refine (bag_group HB.out HI0.out HM0.out).mono ?_
  rintro e w2 ⟨ao0, c0, l0, rfl, hg, hb⟩
  have HG0 := Lib.hid hg
  have HB := Lib.hid hb
  clear hg hb
  go_wp2_with fail
  refine (bag_group HB.out HI1.out HM1.out).mono ?_
  rintro e w3 ⟨ao1, c1, l1, rfl, hg, hb⟩
  have HG1 := Lib.hid hg
  have HB := Lib.hid hb
  clear hg hb
  go_wp2_with fail
  refine (bag_apply (V := .slice ao0 l0.length c0) (l := l0) HB.out ⟨rfl, rfl⟩ rfl (by simp [DS.new]) HG0.out (by simp)).mono ?_
  rintro e w4 ⟨rfl, S4, hb, _⟩
  have HB := Lib.hid hb
  clear hb
  go_wp2_with fail
  refine (bag_free HB.out).mono ?_
  rintro e w5 ⟨rfl, hb, h64⟩
  have HB := Lib.hid hb
  clear hb
  go_wp2_with (refine wpList_var46 (by rfl) (by rfl) 10 (.tmp 30) (by rfl) (by rfl) (by rfl) _ h64 (by rfl) (by rfl) ?c1)
  case c1 =>
  intro w6 hu hv
  have HB := Lib.hid (HB.out.newv hu hv)
  have HV1 := Lib.hid h64
  clear hu hv h64
  generalize w5.heap.size = g1 at *
  go_wp2_with fail
  refine (bag_mark HB.out).mono ?_
  rintro e w7 ⟨rfl, S7, hb⟩
  have HB := Lib.hid hb
  clear hb
  go_wp2_with fail
  refine (bag_apply (V := .slice ao1 l1.length c1) (l := l1) HB.out ⟨rfl, rfl⟩ (with_idle (d := DS.new) rfl) (by simp [DS.mark]) HG1.out (by simp)).mono ?_
  rintro e w8 ⟨rfl, S8, hb, _⟩
  have HB := Lib.hid hb
  clear hb
  go_wp2_with fail
  refine (bag_free HB.out).mono ?_
  rintro e w9 ⟨rfl, hb, h64⟩
  have HB := Lib.hid hb
  clear hb
  go_wp2_with (refine wpList_var46 (by rfl) (by rfl) 11 (.tmp 38) (by rfl) (by rfl) (by rfl) _ h64 (by rfl) (by rfl) ?c2)
  case c2 =>
  intro w10 hu hv
  have HB := Lib.hid (HB.out.newv hu hv)
  have HV2 := Lib.hid h64
  clear hu hv h64
  generalize w9.heap.size = g2 at *
  have HL := Lib.hid (fullW_len l1 HG1.out.len)
  go_wp2_with fail
  obtain ⟨N, hN⟩ : ∃ N, N = (fullW l1).length := ⟨_, rfl⟩
  have HN := Lib.hid hN
  have hN50 : N ≤ 50 := by rw [hN]; exact HL.out
  clear hN
  refine (bag_writes (n := N) HB.out (by simp [DS.with, DS.mark, HN.out]) (by omega)).mono ?_
  rintro e w11 ⟨⟨ao2, c2, rfl⟩, hb⟩
  have HB := Lib.hid hb
  clear hb
  have HN50 := Lib.hid hN50
  clear hN50
  go_wp2_with fail
  refine (within_any n0 N HN0.out.1 HN0.out.2 (by omega) (by have := HN50.out; omega) w11).mono ?_
  rintro e w12 ⟨⟨r, hr, rfl⟩, rfl⟩
  have HR := Lib.hid (show r ≤ N by omega)
  clear hr
  go_wp2_with fail
  refine (bag_cut (n := r) HB.out (by have := HN50.out; simp [DS.with, DS.mark, ← HN.out]; omega) (by have := HN50.out; have := HR.out; omega)).mono ?_
  rintro e w13 ⟨k', S', rfl, hb⟩
  have HB := Lib.hid hb
  clear hb
  obtain ⟨d3, h3⟩ : ∃ d3, d3 = ((DS.new.with l0).mark.with l1).cut r := ⟨_, rfl⟩
  have HQ3 := Lib.hid (show Quiet d3 by rw [h3]; exact of_quiet _)
  have HS3 := Lib.hid (show StS (r = 0) (r = (fullW l1).length) (DS.new.with l0).bl l1 d3.bl by rw [h3]; exact full_st (with_idle (d := DS.new) rfl) HG1.out r)
  have HW3 := Lib.hid (show d3.ws = [] by rw [h3]; rfl)
  rw [← h3] at HB
  clear h3
  obtain ⟨m, hm⟩ := recv_st HQ3.out HG1.out HS3.out
  go_wp2_with fail
  refine (bag_recover HB.out (by rw [HW3.out]; simp) hm).mono ?_
  rintro e w14 ⟨rfl, S14, hb⟩
  have HB := Lib.hid hb
  clear hb hm
  obtain ⟨d4, h4⟩ : ∃ d4, d4 = d3.rc := ⟨_, rfl⟩
  have HQ4 := Lib.hid (show Quiet d4 by rw [h4]; exact rc_quiet HQ3.out)
  have HS4 := Lib.hid (show _ by have := (rc_st HG1.out HS3.out).2.2; rw [← h4] at this; exact this)
  have HW4 := Lib.hid (show d4.ws.length ≤ 256 by rw [h4]; show (d3.ws ++ recAll d3.bl).length ≤ 256; rw [HW3.out]; exact recAll_le _)
  rw [← h4] at HB
  clear h4
  go_wp2_with fail
  refine (bag_free HB.out).mono ?_
  rintro e w15 ⟨rfl, hb, h64⟩
  have HB := Lib.hid hb
  clear hb
  go_wp2_with (refine wpList_var46 (by rfl) (by rfl) 15 (.tmp 54) (by rfl) (by rfl) (by rfl) _ h64 (by rfl) (by rfl) ?c3)
  case c3 =>
  intro w16 hu hv
  have HB := Lib.hid (HB.out.newv hu hv)
  obtain ⟨a, b, ha, hb, hab, hao, hbo⟩ := either46 h64 HV1.out HV2.out (HS4.out.elim (fun h => .inl (oldS_fr HQ4.out h (e := DS.new.with l0) ⟨rfl, rfl⟩ rfl)) (fun h => .inr (newS_fr HQ4.out h HG1.out (e := (DS.new.with l0).mark) ⟨rfl, rfl⟩ rfl)))
  clear hao hbo hu hv
  have HR3 := Lib.hid (HB.out.v (w15.heap.size, d4.fr) (by simp)).range
  have HR2 := Lib.hid (HB.out.v (g2, ((DS.new.with l0).mark.with l1).fr) (by simp)).range
  have HR1 := Lib.hid (HB.out.v (g1, (DS.new.with l0).fr) (by simp)).range
  have HE := Lib.hid (again_fr HQ4.out HS4.out HG1.out (e := (DS.new.with l0).mark) ⟨rfl, rfl⟩ rfl)
  have HI4 := Lib.hid (show idle d4.bl from HS4.out.elim (fun h => h.1) (fun h => h.1))
  generalize w15.heap.size = g3 at *
  have HSZ3 := Lib.hid (show (Try.prog.info? 46).map (·.size) = some (flatV d4.fr).length by rw [flatV_len h64]; exact size46)
  have HSZ2 := Lib.hid (show (Try.prog.info? 46).map (·.size) = some (flatV ((DS.new.with l0).mark.with l1).fr).length by rw [flatV_len HV2.out]; exact size46)
  have HSZ1 := Lib.hid (show (Try.prog.info? 46).map (·.size) = some (flatV (DS.new.with l0).fr).length by rw [flatV_len HV1.out]; exact size46)
  have HV3 := Lib.hid h64
  clear h64
  have HAB := Lib.hid hab
  clear hab
  generalize hF1 : flatV (DS.new.with l0).fr = F1 at *
  generalize hF2 : flatV ((DS.new.with l0).mark.with l1).fr = F2 at *
  generalize hF3 : flatV d4.fr = F3 at *
  have HF1 := Lib.hid hF1
  have HF2 := Lib.hid hF2
  have HF3 := Lib.hid hF3
  clear hF1 hF2 hF3
  go_upto_region 18 with fail
  go_cut [66] (fun s wx => s = .bool false ∧ wx = w16)
  case first =>
    have HA := Lib.hid ha
    have HB0 := Lib.hid hb
    clear ha hb
    cases a with
    | false =>
      go_wp2_with (first | (refine wpList_load_midG (by rfl) 46 (.tmp 15) rfl g3 0 (by rfl) F3 _ HR3.out Try.underlying46 rfl HSZ3.out ?_) | (refine wpList_load_midG (by rfl) 46 (.tmp 10) rfl g1 0 (by rfl) F1 _ HR1.out Try.underlying46 rfl HSZ1.out ?_) | (refine wpList_binG (by rfl) .neq 46 (.tmp 58) (.tmp 59) rfl F3.toArray F1.toArray (by rfl) (by rfl) Try.eqGuardType46 (HA.out _) ?_) | fail)
      go_meet
      exact ⟨rfl, rfl⟩
    | true =>
      have hb0 := HAB.out rfl
      subst hb0
      go_wp2_with (first | (refine wpList_load_midG (by rfl) 46 (.tmp 15) rfl g3 0 (by rfl) F3 _ HR3.out Try.underlying46 rfl HSZ3.out ?_) | (refine wpList_load_midG (by rfl) 46 (.tmp 10) rfl g1 0 (by rfl) F1 _ HR1.out Try.underlying46 rfl HSZ1.out ?_) | (refine wpList_load_midG (by rfl) 46 (.tmp 11) rfl g2 0 (by rfl) F2 _ HR2.out Try.underlying46 rfl HSZ2.out ?_) | (refine wpList_binG (by rfl) .neq 46 (.tmp 58) (.tmp 59) rfl F3.toArray F1.toArray (by rfl) (by rfl) Try.eqGuardType46 (HA.out _) ?_) | (refine wpList_binG (by rfl) .neq 46 (.tmp 62) (.tmp 63) rfl F3.toArray F2.toArray (by rfl) (by rfl) Try.eqGuardType46 (HB0.out _) ?_) | fail)
      go_meet
      exact ⟨rfl, rfl⟩
  case rest =>
  obtain ⟨rfl, rfl⟩ := hcut
  clear ha hb
  go_wp2_with fail
  refine (bag_recover HB.out (by have := HW4.out; omega) (recv_idle HQ4.out.1 HI4.out)).mono ?_
  rintro e w17 ⟨rfl, S17, hb⟩
  have HB := Lib.hid hb
  clear hb
  have HR2 := Lib.hid (HB.out.v (g2, ((DS.new.with l0).mark.with l1).fr) (by simp)).range
  have HNG := Lib.hid (HB.out.sv (g2, ((DS.new.with l0).mark.with l1).fr) (by simp)).1
  rw [HF2.out] at HR2
  have HEF := Lib.hid (show F2 = flatV (d4.with l1).fr by rw [← HF2.out]; exact (flatV_congr HE.out).symm)
  have HQF := Lib.hid (fun w => eql46 HV2.out HF2.out.symm w)
  go_wp2_with fail
  refine wp_region_noPanic ?_
  have hQ0 : Upd (fun _ => False) w17 w17.drew := (Upd.refl _ w17).drew
  have hS0 : Upd S17 w17 w17.drew := (Upd.refl _ w17).drew
  refine wp_region_held (S := fun wx => Upd S17 w17 wx) (by kernel_rfl) ?_
  refine wpAnyH_take (i := 0) (v := .int .i64 0) (List.getElem?_toArray.trans rfl) (by kernel_rfl) (by kernel_rfl) (by kernel_rfl) (fun _ _ _ h => h) (Or.inl ⟨by rfl, fun w _ => by rfl⟩) hS0 ?_
  simp only [Act.put, List.setIfInBounds_toArray, List.set_cons_zero, List.set_cons_succ]
  refine wpAnyH_take (i := 1) (v := .bool true) (List.getElem?_toArray.trans rfl) (by kernel_rfl) (by kernel_rfl) (by kernel_rfl) (fun _ _ _ h => h) (Or.inl ⟨by rfl, fun w _ => by go_simp⟩) hS0 ?_
  simp only [Act.put, List.setIfInBounds_toArray, List.set_cons_zero, List.set_cons_succ]
  refine wpAnyH_take (i := 2) (v := .bool true) (List.getElem?_toArray.trans rfl) (by kernel_rfl) (by kernel_rfl) (by kernel_rfl) (fun _ _ _ h => h) (Or.inl ⟨by rfl, fun w _ => by rfl⟩) hS0 ?_
  simp only [Act.put, List.setIfInBounds_toArray, List.set_cons_zero, List.set_cons_succ]
  refine wpAnyH_take (i := 3) (v := .int .i64 0) (List.getElem?_toArray.trans rfl) (by kernel_rfl) (by kernel_rfl) (by kernel_rfl) (fun _ _ _ h => h) (Or.inl ⟨by rfl, fun w _ => by rfl⟩) hS0 ?_
  simp only [Act.put, List.setIfInBounds_toArray, List.set_cons_zero, List.set_cons_succ]
  refine wpAnyH_take (i := 4) (v := .bool true) (List.getElem?_toArray.trans rfl) (by kernel_rfl) (by kernel_rfl) (by kernel_rfl) (fun _ _ _ h => h) (Or.inl ⟨by rfl, fun w _ => by go_simp⟩) hS0 ?_
  simp only [Act.put, List.setIfInBounds_toArray, List.set_cons_zero, List.set_cons_succ]
  refine wpAnyH_take (i := 5) (v := .bool true) (List.getElem?_toArray.trans rfl) (by kernel_rfl) (by kernel_rfl) (by kernel_rfl) (fun _ _ _ h => h) (Or.inl ⟨by rfl, fun w _ => by go_simp⟩) hS0 ?_
  simp only [Act.put, List.setIfInBounds_toArray, List.set_cons_zero, List.set_cons_succ]
  refine wpAnyH_take (i := 6) (v := .bool true) (List.getElem?_toArray.trans rfl) (by kernel_rfl) (by kernel_rfl) (by kernel_rfl) (fun _ _ _ h => h) (Or.inl ⟨by rfl, fun w _ => by rfl⟩) hS0 ?_
  simp only [Act.put, List.setIfInBounds_toArray, List.set_cons_zero, List.set_cons_succ]
  refine wpAnyH_take (i := 7) (v := .pointer (some ⟨k', 0, none⟩)) (List.getElem?_toArray.trans rfl) (by kernel_rfl) (by kernel_rfl) (by kernel_rfl) (fun _ _ _ h => h) (Or.inl ⟨by rfl, fun w _ => by rfl⟩) hS0 ?_
  simp only [Act.put, List.setIfInBounds_toArray, List.set_cons_zero, List.set_cons_succ]
  refine wpAnyH_take (i := 8) (v := .slice ao1 l1.length c1) (List.getElem?_toArray.trans rfl) (by kernel_rfl) (by kernel_rfl) (by kernel_rfl) (fun _ _ _ h => h) (Or.inl ⟨by rfl, fun w _ => by rfl⟩) hS0 ?_
  simp only [Act.put, List.setIfInBounds_toArray, List.set_cons_zero, List.set_cons_succ]
  refine wpAnyH_ready (rs := [9]) (by kernel_rfl) (by simp) (AllReadyH.cons (List.getElem?_toArray.trans rfl) (fun K hK => ?_) AllReadyH.nil)
  go_simp
  refine (bag_apply (V := .slice ao1 l1.length c1) (l := l1) (HB.out.q hQ0) HQ4.out HI4.out (by have := HW4.out; omega) HG1.out (by simp)).mono ?_
  rintro e w' ⟨rfl, S18, hb, hA⟩
  have hS1 := hS0.trans' hA
  have HB := Lib.hid hb
  refine hK.out _ _ hS1 (fun _ => ?_)
  try simp only [Act.put, List.setIfInBounds_toArray, List.set_cons_zero, List.set_cons_succ]
  refine wpAnyH_take (i := 10) (v := .bool true) (List.getElem?_toArray.trans rfl) (by kernel_rfl) (by kernel_rfl) (by kernel_rfl) (fun _ _ _ h => h) (Or.inl ⟨by rfl, fun w _ => by go_simp⟩) hS1 ?_
  simp only [Act.put, List.setIfInBounds_toArray, List.set_cons_zero, List.set_cons_succ]
  refine wpAnyH_take (i := 11) (v := .bool true) (List.getElem?_toArray.trans rfl) (by kernel_rfl) (by kernel_rfl) (by kernel_rfl) (fun _ _ _ h => h) (Or.inl ⟨by rfl, fun w _ => by go_simp⟩) hS1 ?_
  simp only [Act.put, List.setIfInBounds_toArray, List.set_cons_zero, List.set_cons_succ]
  refine wpAnyH_take (i := 12) (v := .bool true) (List.getElem?_toArray.trans rfl) (by kernel_rfl) (by kernel_rfl) (by kernel_rfl) (fun _ _ _ h => h) (Or.inl ⟨by rfl, fun w _ => by rfl⟩) hS1 ?_
  simp only [Act.put, List.setIfInBounds_toArray, List.set_cons_zero, List.set_cons_succ]
  refine wpAnyH_take (i := 13) (v := .pointer (some ⟨k', 0, none⟩)) (List.getElem?_toArray.trans rfl) (by kernel_rfl) (by kernel_rfl) (by kernel_rfl) (fun _ _ _ h => h) (Or.inl ⟨by rfl, fun w _ => by rfl⟩) hS1 ?_
  simp only [Act.put, List.setIfInBounds_toArray, List.set_cons_zero, List.set_cons_succ]
  refine wpAnyH_take (i := 15) (v := .agg F2.toArray) (List.getElem?_toArray.trans rfl) (by kernel_rfl) (by kernel_rfl) (by kernel_rfl) (fun _ _ _ h => h) (yieldsIf_load_mid (by rfl) 46 _ rfl g2 0 rfl F2 _ (fun w h => range_upd HR2.out h HNG.out) Try.underlying46 rfl HSZ2.out) hS1 ?_
  simp only [Act.put, List.setIfInBounds_toArray, List.set_cons_zero, List.set_cons_succ]
  refine wpAnyH_ready (rs := [14]) (by kernel_rfl) (by simp) (AllReadyH.cons (List.getElem?_toArray.trans rfl) (fun K hK => ?_) AllReadyH.nil)
  go_simp
  refine (bag_freeF HB.out HEF.out).mono ?_
  rintro e w' ⟨rfl, hb, hA⟩
  have hS2 := hS1.trans hA (fun _ _ h => h.elim)
  have HB := Lib.hid hb
  refine hK.out _ _ hS2 (fun _ => ?_)
  try simp only [Act.put, List.setIfInBounds_toArray, List.set_cons_zero, List.set_cons_succ]
  refine wpAnyH_take (i := 16) (v := .bool true) (List.getElem?_toArray.trans rfl) (by kernel_rfl) (by kernel_rfl) (by kernel_rfl) (fun _ _ _ h => h) (Or.inl ⟨by rfl, fun w _ => exec_bin .eql 46 (.tmp 86) (.tmp 87) rfl F2.toArray F2.toArray (by rfl) (by rfl) Try.eqGuardType46 (HQF.out w)⟩) hS2 ?_
  simp only [Act.put, List.setIfInBounds_toArray, List.set_cons_zero, List.set_cons_succ]
  refine wpAnyH_take (i := 17) (v := .bool true) (List.getElem?_toArray.trans rfl) (by kernel_rfl) (by kernel_rfl) (by kernel_rfl) (fun _ _ _ h => h) (Or.inl ⟨by rfl, fun w _ => by go_simp⟩) hS2 ?_
  simp only [Act.put, List.setIfInBounds_toArray, List.set_cons_zero, List.set_cons_succ]
  refine wpAnyH_take (i := 18) (v := .bool true) (List.getElem?_toArray.trans rfl) (by kernel_rfl) (by kernel_rfl) (by kernel_rfl) (fun _ _ _ h => h) (Or.inl ⟨by rfl, fun w _ => by rfl⟩) hS2 ?_
  simp only [Act.put, List.setIfInBounds_toArray, List.set_cons_zero, List.set_cons_succ]
  refine wpAnyH_ready (rs := [19]) (by kernel_rfl) (by simp) (AllReadyH.cons (List.getElem?_toArray.trans rfl) (fun K hK => ?_) AllReadyH.nil)
  go_simp
  refine (known24_any _).mono ?_
  rintro e w' ⟨rfl, hA⟩
  have hS3 := hS2.trans hA (fun _ _ h => h.elim)
  have HB := Lib.hid (HB.out.q hA)
  refine hK.out _ _ hS3 (fun _ => ?_)
  try simp only [Act.put, List.setIfInBounds_toArray, List.set_cons_zero, List.set_cons_succ]
  refine wpAnyH_take (i := 20) (v := .bool true) (List.getElem?_toArray.trans rfl) (by kernel_rfl) (by kernel_rfl) (by kernel_rfl) (fun _ _ _ h => h) (Or.inl ⟨by rfl, fun w _ => by go_simp⟩) hS3 ?_
  simp only [Act.put, List.setIfInBounds_toArray, List.set_cons_zero, List.set_cons_succ]
  refine wpAnyH_take (i := 21) (v := .bool true) (List.getElem?_toArray.trans rfl) (by kernel_rfl) (by kernel_rfl) (by kernel_rfl) (fun _ _ _ h => h) (Or.inl ⟨by rfl, fun w _ => by rfl⟩) hS3 ?_
  simp only [Act.put, List.setIfInBounds_toArray, List.set_cons_zero, List.set_cons_succ]
  refine wpAnyH_done (by kernel_rfl) ?_ _
  refine NoPanic.normal ?_
  go_wp2
  go_ret
  exact ⟨rfl, HB.out.u⟩
end Go.Proofs.Ytckgcfkahffibaa
