import Derived.Test.YtaphlhggmdhffaaRot
namespace Go.Proofs.Ytaphlhggmdhffaa
open Go.RowKit
set_option linter.unusedVariables false
set_option linter.unusedSimpArgs false
theorem wf_i64 {a : Int} (h : (Lit.int .i64 a).wf = true) : -9223372036854775808 ≤ a ∧ a ≤ 9223372036854775807 := by
  simp [Lit.wf] at h
  exact h
set_option maxHeartbeats 4000000 in
set_option maxRecDepth 100000 in
theorem within_any (n hi : Int) (h1 : -9223372036854775808 ≤ n) (h2 : n ≤ 9223372036854775807) (h0 : 0 ≤ hi) (hh : hi ≤ 1000) (w : World) :
    Calls Try.prog 15 #[.int .i64 n, .int .i64 0, .int .i64 hi] w fun e w' => (∃ r : Nat, (r : Int) ≤ hi ∧ e = .returned (.int .i64 r)) ∧ w' = w := by
  have ha : n.tmod (hi + 1) < hi + 1 := by
    have := Int.tmod_lt_of_pos n (show 0 < hi + 1 by omega)
    omega
  have hb : -(hi + 1) < n.tmod (hi + 1) := by
    have := Int.tmod_lt_of_pos (-n) (show 0 < hi + 1 by omega)
    rw [Int.neg_tmod] at this
    omega
  by_cases hneg : n.tmod (hi + 1) < 0
  · obtain ⟨r, hr⟩ := Int.eq_ofNat_of_zero_le (show 0 ≤ n.tmod (hi + 1) + hi + 1 by omega)
    have HR := Lib.hid hr
    clear hr
    go_enter Try.func15, Try.ntmps15
    go_wp2
    go_ret
    have hr := HR.out
    refine ⟨⟨r, by omega, ?_⟩, rfl⟩
    rw [← hr]
    rfl
  · obtain ⟨r, hr⟩ := Int.eq_ofNat_of_zero_le (show 0 ≤ n.tmod (hi + 1) by omega)
    have HR := Lib.hid hr
    clear hr
    go_enter Try.func15, Try.ntmps15
    go_wp2
    go_ret
    have hr := HR.out
    refine ⟨⟨r, by omega, ?_⟩, rfl⟩
    rw [← hr]
    rfl
set_option maxHeartbeats 8000000 in
set_option maxRecDepth 100000 in
theorem turned_any (u u' : Value) (l L0 : Names) (n : Int) (h1 : -9223372036854775808 ≤ n) (h2 : n ≤ 9223372036854775807) (w : World) (hl : SS w u l) (hzl : Sz l) (hL : SS w u' L0) (hz : Sz L0) :
    Calls Try.prog 6 #[u, u', .int .i64 n] w fun e w' => e = .returned (.bool true) ∧ Upd (fun _ => False) w w' := by
  have HL := Lib.hid hL
  have HZ := Lib.hid hz
  have HI := Lib.hid hl
  have HZI := Lib.hid hzl
  obtain ⟨ao, ca, rfl, hca, hcm, _⟩ := hL
  clear hl hzl hz
  go_enter Try.func6, Try.ntmps6
  go_upto_if 12 with fail
  go_cut [1] (fun s wx => wx = w ∧ ∃ L, SS w s L ∧ Sz L ∧ L.length ≤ 12)
  case first =>
    by_cases h12 : L0.length ≤ 12
    · have f1 : ¬ ((12 : Int) < (L0.length : Int)) := by omega
      go_wp2_with fail
      go_meet
      exact ⟨rfl, L0, HL.out, HZ.out, h12⟩
    · have f1 : ((12 : Int) < (L0.length : Int)) := by omega
      have f2 : 12 ≤ ca := by omega
      go_wp2_with fail
      go_meet
      exact ⟨rfl, L0.take 12, HL.out.pre (by omega), HZ.out.pre 12, by simp; omega⟩
  case rest =>
    obtain ⟨rfl, L, hL, hz, hn⟩ := hcut
    have HL := Lib.hid hL
    have HZ := Lib.hid hz
    obtain ⟨al, cl, rfl, hcl, hcml, _⟩ := hL
    clear hz
    go_wp2_with fail
    refine (cases_any u l _ HI.out HZI.out).mono ?_
    rintro e w1 ⟨vc, rfl, hC, hu⟩
    have HC := Lib.hid hC
    have HLC := Lib.hid (show (casesS l).length ≤ 10 from casesS_len l)
    have HSC := Lib.hid (show ∀ c ∈ casesS l, La c = c from fun c h => La_cases h)
    have HZC := Lib.hid HZI.out.cases
    generalize casesS l = C at *
    have HU := Lib.hid hu
    clear hu
    obtain ⟨ac, cc, rfl, hcc, hccm, _⟩ := hC
    have HL1 := Lib.hid (HL.out.upd HU.out)
    go_upto_if 19 with fail
    go_cut [1, 8] (fun v s wx => wx = w1 ∧ v = .slice al L.length cl ∧ ∃ k : Nat, s = .int .i64 k ∧ k ≤ L.length)
    case first =>
      by_cases h0 : L.length = 0
      · have f1 : ¬ ((0 : Int) < (L.length : Int)) := by omega
        go_wp2_with fail
        go_meet
        exact ⟨rfl, by rw [h0], 0, by go_num, by omega⟩
      · have f1 : ((0 : Int) < (L.length : Int)) := by omega
        go_wp2_with fail
        refine (within_any n ((L.length : Int) - 1) h1 h2 (by omega) (by omega) _).mono ?_
        rintro e w2 ⟨⟨k, hk, rfl⟩, rfl⟩
        go_wp2_with fail
        go_meet
        exact ⟨rfl, rfl, k, rfl, by omega⟩
    case rest =>
      obtain ⟨rfl, rfl, k, rfl, hk⟩ := hcut
      have hS0 : Upd (fun _ => False) wc wc.drew := (Upd.refl _ wc).drew
      have HLw := Lib.hid HL1.out
      obtain ⟨vs, hvs⟩ : ∃ vs, vs = sliced al k L.length cl 1 := ⟨_, rfl⟩
      obtain ⟨vt, hvt⟩ : ∃ vt, vt = sliced al 0 k cl 1 := ⟨_, rfl⟩
      have HVS := Lib.hid hvs
      have HVT := Lib.hid hvt
      have HSS := Lib.hid (show SS wc vs (L.drop k) by rw [hvs]; exact HL1.out.from hk)
      have HST := Lib.hid (show SS wc vt (L.take k) by rw [hvt]; exact HL1.out.to hk)
      clear hvs hvt
      have hkc : k ≤ cl := by omega
      have hdl : (L.drop k).length ≤ 12 := by rw [List.length_drop]; omega
      have htl : (L.take k).length ≤ 12 := by rw [List.length_take]; omega
      obtain ⟨i9, hi9, y0, y1, y2⟩ := info_parts info9
      go_upto_region 7 with fail
      go_cut [9] (fun s wx => SS wx s (L.drop k ++ L.take k) ∧ Upd (fun _ => False) wc wx)
      case first =>
        refine wp_region_noPanic ?_
        refine wp_region_held (S := fun wx => Upd (fun _ => False) wc wx) (by kernel_rfl) ?_
        refine wpAnyH_take (i := 1) (v := .slice al L.length cl) (List.getElem?_toArray.trans rfl) (by kernel_rfl) (by kernel_rfl) (by kernel_rfl) (fun _ _ _ h => h) (Or.inl ⟨by rfl, fun w _ => by rfl⟩) hS0 ?_
        try simp only [Act.put, List.setIfInBounds_toArray, List.set_cons_zero, List.set_cons_succ]
        refine wpAnyH_take (i := 2) (v := .int .i64 (k : Int)) (List.getElem?_toArray.trans rfl) (by kernel_rfl) (by kernel_rfl) (by kernel_rfl) (fun _ _ _ h => h) (Or.inl ⟨by rfl, fun w _ => by rfl⟩) hS0 ?_
        try simp only [Act.put, List.setIfInBounds_toArray, List.set_cons_zero, List.set_cons_succ]
        refine wpAnyH_take (i := 3) (v := vs) (List.getElem?_toArray.trans rfl) (by kernel_rfl) (by kernel_rfl) (by kernel_rfl) (fun _ _ _ h => h) (Or.inl ⟨by rfl, fun w _ => by rw [HVS.out]; go_simp⟩) hS0 ?_
        try simp only [Act.put, List.setIfInBounds_toArray, List.set_cons_zero, List.set_cons_succ]
        refine wpAnyH_take (i := 5) (v := .slice al L.length cl) (List.getElem?_toArray.trans rfl) (by kernel_rfl) (by kernel_rfl) (by kernel_rfl) (fun _ _ _ h => h) (Or.inl ⟨by rfl, fun w _ => by rfl⟩) hS0 ?_
        try simp only [Act.put, List.setIfInBounds_toArray, List.set_cons_zero, List.set_cons_succ]
        refine wpAnyH_take (i := 6) (v := .int .i64 (k : Int)) (List.getElem?_toArray.trans rfl) (by kernel_rfl) (by kernel_rfl) (by kernel_rfl) (fun _ _ _ h => h) (Or.inl ⟨by rfl, fun w _ => by rfl⟩) hS0 ?_
        try simp only [Act.put, List.setIfInBounds_toArray, List.set_cons_zero, List.set_cons_succ]
        refine wpAnyH_take (i := 7) (v := vt) (List.getElem?_toArray.trans rfl) (by kernel_rfl) (by kernel_rfl) (by kernel_rfl) (fun _ _ _ h => h) (Or.inl ⟨by rfl, fun w _ => by rw [HVT.out]; go_simp⟩) hS0 ?_
        try simp only [Act.put, List.setIfInBounds_toArray, List.set_cons_zero, List.set_cons_succ]
        refine wpAnyH_ready (rs := [0]) (by kernel_rfl) (by simp) (AllReadyH.cons (List.getElem?_toArray.trans rfl) (fun K hK => ?_) AllReadyH.nil)
        go_simp
        have hS1 : Upd (fun _ => False) wc (wc.drew.alloc (.cells #[] 9)) := hS0.alloc _
        have HS1 := Lib.hid hS1
        refine hK.out _ _ hS1 (fun _ => ?_)
        try simp only [Act.put, List.setIfInBounds_toArray, List.set_cons_zero, List.set_cons_succ]
        refine wpAnyH_ready (rs := [4]) (by kernel_rfl) (by simp) (AllReadyH.cons (List.getElem?_toArray.trans rfl) (fun K hK => ?_) AllReadyH.nil)
        refine step_append_src_own _ (by rfl) _ _ 24 24 (by rfl) wc.heap.size 9 i9 _ 1 16 Try.underlying24 hi9 y0 y1 y2 rfl (.slice (some ⟨wc.heap.size, 0, none⟩) 0 0) 0 [] (by rfl) (own_empty wc.drew wc.heap.size (Nat.le_refl _)) vs (L.drop k).length (strV (L.drop k)) (by rfl) (Src.ofSS Try.underlying24 (HSS.out.upd HS1.out)) (by unfold maxLen; omega) (by omega) (by simp) ?_
        intro v5 w5 p1 p2 p3 p4
        rw [Nat.zero_add, List.nil_append] at p1
        have HO5 := Lib.hid p1
        have HS5 := Lib.hid (hS1.grown p2 (fun j hj hlt => by simp [Value.ownBlock] at hj; omega))
        have hS2 := HS5.out
        clear p1 p2 p3 p4
        refine hK.out _ _ hS2 (fun _ => ?_)
        try simp only [Act.put, List.setIfInBounds_toArray, List.set_cons_zero, List.set_cons_succ]
        refine wpAnyH_ready (rs := [8]) (by kernel_rfl) (by simp) (AllReadyH.cons (List.getElem?_toArray.trans rfl) (fun K hK => ?_) AllReadyH.nil)
        refine step_append_src_own _ (by rfl) _ _ 24 24 (by rfl) wc.heap.size 9 i9 _ 1 16 Try.underlying24 hi9 y0 y1 y2 rfl v5 (L.drop k).length (strV (L.drop k)) (by rfl) HO5.out vt (L.take k).length (strV (L.take k)) (by rfl) (Src.ofSS Try.underlying24 (HST.out.upd HS5.out)) (by unfold maxLen; omega) (by omega) HS5.out.size ?_
        intro v6 w6 p1 p2 p3 p4
        have HO6 := Lib.hid (show w6.ownsRow wc.heap.size 9 1 v6 (L.drop k ++ L.take k).length (strV (L.drop k ++ L.take k)) by rw [strV_app, List.length_append]; exact p1)
        have HS6 := Lib.hid (hS2.grown p2 (fun j hj hlt => by have := own_ge HO5.out hj; omega))
        have hS3 := HS6.out
        clear p1 p2 p3 p4
        refine hK.out _ _ hS3 (fun _ => ?_)
        try simp only [Act.put, List.setIfInBounds_toArray, List.set_cons_zero, List.set_cons_succ]
        refine wpAnyH_take (i := 9) (v := v6) (List.getElem?_toArray.trans rfl) (by kernel_rfl) (by kernel_rfl) (by kernel_rfl) (fun _ _ _ h => h) (Or.inl ⟨by rfl, fun w _ => by rfl⟩) hS3 ?_
        try simp only [Act.put, List.setIfInBounds_toArray, List.set_cons_zero, List.set_cons_succ]
        refine wpAnyH_done (by kernel_rfl) ?_ _
        refine NoPanic.normal ?_
        go_wp2_with fail
        go_meet
        exact ⟨SS_own HO6.out, HS6.out⟩
      case rest =>
        obtain ⟨hs9, hu9⟩ := hcut
        obtain ⟨R, hR⟩ : ∃ R, R = L.drop k ++ L.take k := ⟨_, rfl⟩
        rw [← hR] at hs9
        have HRZ := Lib.hid (show Sz R by rw [hR]; exact HZ.out.rot k)
        have HRL := Lib.hid (show R.length = L.length by rw [hR]; exact rot_len L hk)
        have HRM := Lib.hid (show ∀ c, c ∈ L.map La ↔ c ∈ R.map La by rw [hR]; exact rot_mem L k)
        have HRX := Lib.hid (show (extraTo C L L.length).length = (extraTo C R R.length).length by rw [hR]; exact extra_rot C L k)
        have HR9 := Lib.hid hs9
        have hRn : R.length ≤ 12 := by rw [HRL.out]; exact hn
        have hCn := HLC.out
        have HU0 := Lib.hid (HU.out.trans' hu9)
        have HC9 := Lib.hid (HC.out.upd hu9)
        have HL9 := Lib.hid (HLw.out.upd hu9)
        clear hs9 hu9 hR
        go_wp2_with fail
        refine (missing_any _ _ C L _ HC9.out HZC.out (by omega) HL9.out HZ.out (by omega)).mono ?_
        rintro e w2 ⟨V2, rfl, hS, hu⟩
        have HU := Lib.hid hu
        have HS := Lib.hid hS
        clear hS hu
        go_wp2_with fail
        refine (missing_any _ _ C R _ (HC9.out.upd HU.out) HZC.out (by omega) (HR9.out.upd HU.out) HRZ.out (by omega)).mono ?_
        rintro e w3 ⟨V3, rfl, hS, hu⟩
        have HU := Lib.hid (HU.out.trans' hu)
        have HS := Lib.hid (HS.out.upd hu)
        have HS3 := Lib.hid hS
        clear hS hu
        go_wp2_with fail
        refine (same_true _ _ (missTo C L C.length) (missTo C R C.length) _ HS.out HS3.out (missTo_mem HRM.out _)).mono ?_
        rintro e w4 ⟨rfl, hu⟩
        have HU := Lib.hid (HU.out.trans' hu)
        clear hu
        go_wp2_with fail
        refine (extra_any _ _ C L _ (HC9.out.upd HU.out) (HL9.out.upd HU.out) HZ.out (by omega)).mono ?_
        rintro e w5 ⟨V5, rfl, hS, hu⟩
        obtain ⟨a5, c5, rfl, _⟩ := hS
        have HU := Lib.hid (HU.out.trans' hu)
        clear hu
        go_wp2_with fail
        refine (extra_any _ _ C R _ (HC9.out.upd HU.out) (HR9.out.upd HU.out) HRZ.out (by omega)).mono ?_
        rintro e w6 ⟨V6, rfl, hS, hu⟩
        obtain ⟨a6, c6, rfl, _⟩ := hS
        rw [← HRX.out]
        have HU := Lib.hid (HU.out.trans' hu)
        clear hu
        go_wp2_with fail
        refine (twice_any _ L _ (HL9.out.upd HU.out) HZ.out (by omega)).mono ?_
        rintro e w7 ⟨V7, rfl, hS, hu⟩
        obtain ⟨a7, c7, rfl, _⟩ := hS
        have HU := Lib.hid (HU.out.trans' hu)
        clear hu
        go_wp2_with fail
        refine (twice_any _ R _ (HR9.out.upd HU.out) HRZ.out (by omega)).mono ?_
        rintro e w8 ⟨V8, rfl, hS, hu⟩
        obtain ⟨a8, c8, rfl, _⟩ := hS
        rw [← twice_len HRL.out.symm HRM.out]
        have HU := Lib.hid (HU.out.trans' hu)
        clear hu
        go_wp2_with fail
        refine (known_any _).mono ?_
        rintro e w9 ⟨rfl, hu⟩
        have HU := Lib.hid (HU.out.trans' hu)
        clear hu
        go_wp2_with fail
        go_ret
        exact ⟨rfl, HU0.out.trans' HU.out⟩
end Go.Proofs.Ytaphlhggmdhffaa
