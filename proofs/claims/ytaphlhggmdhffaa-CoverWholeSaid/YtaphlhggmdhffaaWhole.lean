import Derived.Test.YtaphlhggmdhffaaConv
namespace Go.Proofs.Ytaphlhggmdhffaa
open Go.RowKit
set_option linter.unusedVariables false
set_option linter.unusedSimpArgs false
set_option maxHeartbeats 8000000 in
set_option maxRecDepth 100000 in
theorem whole_any (n t d : Int) (dot : Bool) (n1 : -9223372036854775808 ≤ n) (n2 : n ≤ 9223372036854775807) (t1 : -9223372036854775808 ≤ t) (t2 : t ≤ 9223372036854775807) (d1 : -9223372036854775808 ≤ d) (d2 : d ≤ 9223372036854775807) (w : World) :
    Calls Try.prog 5 #[.int .i64 n, .int .i64 t, .int .i64 d, .bool dot] w fun e w' => e = .returned (.bool true) ∧ Upd (fun _ => False) w w' := by
  have HD := Lib.hid (And.intro d1 d2)
  clear d1 d2
  go_enter Try.func5, Try.ntmps5
  go_wp2_with fail
  refine (within_any n 5 n1 n2 (by omega) (by omega) _).mono ?_
  rintro e w2 ⟨⟨N, hN, rfl⟩, rfl⟩
  clear n1 n2
  go_wp2_with fail
  refine (within_any t 20 t1 t2 (by omega) (by omega) _).mono ?_
  rintro e w2 ⟨⟨T, hT, rfl⟩, rfl⟩
  clear t1 t2
  go_wp2_with fail
  rw [show (1 : Int) + (N : Int) = ((N + 1 : Nat) : Int) by omega]
  have h6 : N + 1 ≤ 6 := by omega
  have h0 : 0 < N + 1 := by omega
  have hT : T ≤ 20 := by omega
  clear hN
  generalize N + 1 = M at *
  have HM := Lib.hid h6
  have HM0 := Lib.hid h0
  have HT := Lib.hid hT
  go_loopw [11, 9] (fun i v wr => ∃ q : Nat, i = .int .i64 q ∧ q ≤ M ∧ wr.ownsRow w2.heap.size 9 1 v q (strV (lsN q)) ∧ Upd (fun _ => False) w2 wr) (fun i _ _ => M - (intOf i).toNat)
  case atStart => exact ⟨0, rfl, by omega, World.ownsRow_nil _ _ _ _, Upd.refl _ _⟩
  case round =>
    obtain ⟨q, rfl, hq, ho, hu⟩ := hrel
    have HO := Lib.hid ho
    have HU := Lib.hid hu
    clear ho hu
    by_cases hlt : q < M
    · have f1 : (q : Int) < (M : Int) := by omega
      have f4 : q + 1 ≤ M := by omega
      have f5 : q < 6 := by omega
      clear hq hlt
      have HE0 := Lib.hid (enc6 ⟨q, f5⟩)
      have HCV := Lib.hid (conv32 (97 + (q : Int)) (by omega) (by omega))
      have HCS := Lib.hid (convs (97 + (q : Int)))
      obtain ⟨ec, hec⟩ : ∃ ec, ec = Utf8.encode (97 + (q : Int)) := ⟨_, rfl⟩
      have HE := Lib.hid (show (⟨#[67]⟩ : ByteArray) ++ ec = cn q by rw [hec]; exact HE0.out)
      rw [← hec] at HCS
      have hz1 : ec.size ≤ 4 := by rw [hec]; exact encs6 ⟨q, f5⟩
      have hz2 : (⟨#[67]⟩ : ByteArray).size + ec.size ≤ 9223372036854775807 := by have : (⟨#[67]⟩ : ByteArray).size = 1 := rfl; omega
      have hz3 : ¬ (9223372036854775807 < (⟨#[67]⟩ : ByteArray).size + ec.size) := by omega
      clear hec
      obtain ⟨i9, hi9, y0, y1, y2⟩ := info_parts info9
      have HO2 := Lib.hid (ownsRow_upd HO.out ((Upd.refl (fun _ => False) wr).alloc (.cells #[.string ((⟨#[67]⟩ : ByteArray) ++ ec)] 9)) (fun _ _ h => h))
      have HSR := Lib.hid (news_src (size := 1) Try.underlying24 (w := wr) (e' := 9) [.string ((⟨#[67]⟩ : ByteArray) ++ ec)] 1 rfl (by simp [Value.oneCell']))
      have HWS := Lib.hid HU.out.size
      go_wp2_with (first
        | (refine wpList_run rfl (run_value (HCV.out _)) ?_)
        | (refine wpList_run rfl (run_value (HCS.out _)) ?_)
        | (at_builtin; go_loud (refine wpList_append_src_own _ rfl (.tmp 28) (.tmp 34) 24 24 rfl w2.heap.size 9 i9 _ 1 16 Try.underlying24 hi9 y0 y1 y2 rfl u9 q _ rfl HO2.out _ 1 _ rfl HSR.out (by unfold maxLen; omega) (by omega) (by have := HWS.out; simp; omega) ?c5)))
      case c5 =>
      intro v' w5 p1 p2 p3 p4
      have HO5 := Lib.hid (show w5.ownsRow w2.heap.size 9 1 v' (q + 1) (strV (lsN (q + 1))) by rw [lsN_step, ← HE.out, strV_app]; exact p1)
      have HU5 := Lib.hid (Upd.app HO2.out (HU.out.alloc _) p2)
      clear p1 p2 p3 p4
      go_wp2_with fail
      go_roundw
      case rel => exact ⟨q + 1, by go_num, f4, HO5.out, HU5.out⟩
      case measure => (try simp [intOf]) <;> (try omega)
    · have hq' : q = M := by omega
      subst hq'
      have f1 : ¬ ((q : Int) < (q : Int)) := by omega
      clear hlt hq
      have hls := SS_own (L := lsN q) (by rw [lsN_len]; exact HO.out)
      obtain ⟨al, cl, rfl, hcl, hcml, _⟩ := hls
      have HLS := Lib.hid (SS_own (L := lsN q) (by rw [lsN_len]; exact HO.out))
      rw [lsN_len] at *
      obtain ⟨wa, hwa⟩ : ∃ wa, wa = wr := ⟨_, rfl⟩
      subst hwa
      go_wp2_with fail
      go_loopw [12, 10, 13] (fun i v _ wr2 => ∃ p : Nat, i = .int .i64 p ∧ p ≤ q ∧ wr2.ownsRow wa.heap.size 9 1 v p (strV (nsN q T dot p)) ∧ Upd (fun _ => False) wa wr2) (fun i _ _ _ => q - (intOf i).toNat)
      case atStart => exact ⟨0, rfl, by omega, World.ownsRow_nil _ _ _ _, Upd.refl _ _⟩
      case round =>
        obtain ⟨p, rfl, hp, ho, hu⟩ := hrel
        have HO := Lib.hid ho
        have HUp := Lib.hid hu
        clear ho hu
        by_cases hlt : p < q
        · have hix : ixN q T p < q := ixN_lt h0
          have hmod : Int.tmod ((p : Int) + (T : Int)) (q : Int) = ((ixN q T p : Nat) : Int) := by
            have : (p : Int) + (T : Int) = ((p + T : Nat) : Int) := by omega
            rw [this]; rfl
          obtain ⟨b, off, s, rfl, hs, c1⟩ := SS.read HLS.out.cells (show ixN q T p < (lsN q).length by rw [lsN_len]; exact hix)
          rw [lsN_get hix] at hs
          obtain rfl := Option.some.inj hs
          have c1 := HUp.out.cell_some c1 (fun h => h)
          have HSN := Lib.hid (nsN_step q T dot p)
          have hd6 := Lib.hid (show (⟨#[109, 46]⟩ : ByteArray) ++ cn (ixN q T p) = nm true (ixN q T p) from dot6 ⟨ixN q T p, by omega⟩)
          have f1 : (p : Int) < (q : Int) := by omega
          have f4 : p + 1 ≤ q := by omega
          have f5 : p < 6 := by omega
          have hz0 : (cn (ixN q T p)).size = 2 := rfl
          generalize ixN q T p = x at *
          have k0 : (0 : Int) ≤ (x : Int) := by omega
          have k1 : (x : Int) < (q : Int) := by omega
          have k2 : decide (x < q) = true := by simp; omega
          obtain ⟨i9, hi9, y0, y1, y2⟩ := info_parts info9
          clear hlt hp hs
          cases dot
          · have HO2 := Lib.hid (ownsRow_upd HO.out ((Upd.refl (fun _ => False) wr).alloc (.cells #[.string (cn x)] 9)) (fun _ _ h => h))
            have HSR := Lib.hid (news_src (size := 1) Try.underlying24 (w := wr) (e' := 9) [.string (cn x)] 1 rfl (by simp [Value.oneCell']))
            have HWS := Lib.hid HUp.out.size
            go_wp2_with (at_builtin; go_loud (refine wpList_append_src_own _ rfl (.tmp 52) (.tmp 54) 24 24 rfl wa.heap.size 9 i9 _ 1 16 Try.underlying24 hi9 y0 y1 y2 rfl u10 p _ rfl HO2.out _ 1 _ rfl HSR.out (by unfold maxLen; omega) (by omega) (by have := HWS.out; simp; omega) ?c6))
            case c6 =>
            intro v' w5 p1 p2 p3 p4
            have HO5 := Lib.hid (show w5.ownsRow wa.heap.size 9 1 v' (p + 1) (strV (nsN q T false (p + 1))) by rw [HSN.out, strV_app]; exact p1)
            have HU5 := Lib.hid (Upd.app HO2.out (HUp.out.alloc _) p2)
            clear p1 p2 p3 p4
            go_wp2_with fail
            go_roundw
            case rel => exact ⟨p + 1, by go_num, f4, HO5.out, HU5.out⟩
            case measure => (try simp [intOf]) <;> (try omega)
          · have hz2 : (⟨#[109, 46]⟩ : ByteArray).size + (cn x).size ≤ 9223372036854775807 := by have : (⟨#[109, 46]⟩ : ByteArray).size = 2 := rfl; omega
            have hz3 : ¬ (9223372036854775807 < (⟨#[109, 46]⟩ : ByteArray).size + (cn x).size) := by omega
            have HO2 := Lib.hid (ownsRow_upd HO.out ((Upd.refl (fun _ => False) wr).alloc (.cells #[.string ((⟨#[109, 46]⟩ : ByteArray) ++ cn x)] 9)) (fun _ _ h => h))
            have HSR := Lib.hid (news_src (size := 1) Try.underlying24 (w := wr) (e' := 9) [.string ((⟨#[109, 46]⟩ : ByteArray) ++ cn x)] 1 rfl (by simp [Value.oneCell']))
            have HWS := Lib.hid HUp.out.size
            go_wp2_with (at_builtin; go_loud (refine wpList_append_src_own _ rfl (.tmp 52) (.tmp 54) 24 24 rfl wa.heap.size 9 i9 _ 1 16 Try.underlying24 hi9 y0 y1 y2 rfl u10 p _ rfl HO2.out _ 1 _ rfl HSR.out (by unfold maxLen; omega) (by omega) (by have := HWS.out; simp; omega) ?c7))
            case c7 =>
            intro v' w5 p1 p2 p3 p4
            have HO5 := Lib.hid (show w5.ownsRow wa.heap.size 9 1 v' (p + 1) (strV (nsN q T true (p + 1))) by rw [HSN.out, strV_app, ← hd6.out]; exact p1)
            have HU5 := Lib.hid (Upd.app HO2.out (HUp.out.alloc _) p2)
            clear p1 p2 p3 p4
            go_wp2_with fail
            go_roundw
            case rel => exact ⟨p + 1, by go_num, f4, HO5.out, HU5.out⟩
            case measure => (try simp [intOf]) <;> (try omega)
        · have hp' : q = p := by omega
          subst hp'
          have f1 : ¬ ((q : Int) < (q : Int)) := by omega
          clear hlt hp
          have hrs := SS_own (L := nsN q T dot q) (by rw [nsN_len]; exact HO.out)
          obtain ⟨ar, cr, rfl, hcr, hcrm, _⟩ := hrs
          have HRS := Lib.hid (SS_own (L := nsN q T dot q) (by rw [nsN_len]; exact HO.out))
          rw [nsN_len] at *
          have HRN := Lib.hid (nsN_len q T dot q)
          have HRZ := Lib.hid (nsN_sz q T dot q)
          have HE1 := Lib.hid (whole_missing (d := dot) HM0.out HM.out HT.out)
          have HE2 := Lib.hid (whole_extra (T := T) (d := dot) HM0.out HM.out (R := nsN q T dot q) (fun s h => h))
          have HE3 := Lib.hid (show twiceTo (nsN q T dot q) (nsN q T dot q).length = [] by rw [nsN_len]; exact whole_twice HM0.out HM.out HT.out q (Nat.le_refl _))
          have HLS := Lib.hid (HLS.out.upd HUp.out)
          have HUw := Lib.hid (HU.out.trans' HUp.out)
          go_wp2_with fail
          refine (cases_any _ (lsN q) _ HLS.out (lsN_sz q)).mono ?_
          rintro e w3 ⟨V3, rfl, hC, hu⟩
          rw [La_ls HM.out] at hC
          have HC := Lib.hid hC
          have HUw := Lib.hid (HUw.out.trans' hu)
          have HRS := Lib.hid (HRS.out.upd hu)
          clear hC hu
          go_wp2_with fail
          refine (missing_any _ _ (lsN q) (nsN q T dot q) _ HC.out (lsN_sz q) (by rw [lsN_len]; omega) HRS.out HRZ.out (by rw [HRN.out]; omega)).mono ?_
          rintro e w4 ⟨V4, rfl, hS, hu⟩
          rw [HE1.out] at hS
          obtain ⟨a4, c4, rfl⟩ := hS.len_nil
          have HUw := Lib.hid (HUw.out.trans' hu)
          have HRS := Lib.hid (HRS.out.upd hu)
          have HC := Lib.hid (HC.out.upd hu)
          clear hS hu
          go_wp2_with fail
          refine (extra_any _ _ (lsN q) (nsN q T dot q) _ HC.out HRS.out HRZ.out (by rw [HRN.out]; omega)).mono ?_
          rintro e w5 ⟨V5, rfl, hS, hu⟩
          rw [HE2.out] at hS
          obtain ⟨a5, c5, rfl⟩ := hS.len_nil
          have HUw := Lib.hid (HUw.out.trans' hu)
          have HRS := Lib.hid (HRS.out.upd hu)
          have HC := Lib.hid (HC.out.upd hu)
          clear hS hu
          go_wp2_with fail
          refine (twice_any _ (nsN q T dot q) _ HRS.out HRZ.out (by rw [HRN.out]; omega)).mono ?_
          rintro e w6 ⟨V6, rfl, hS, hu⟩
          rw [HE3.out] at hS
          obtain ⟨a6, c6, rfl⟩ := hS.len_nil
          have HUw := Lib.hid (HUw.out.trans' hu)
          have HRS := Lib.hid (HRS.out.upd hu)
          have HC := Lib.hid (HC.out.upd hu)
          clear hS hu
          go_wp2_with fail
          refine (within_any d ((q : Int) - 1) HD.out.1 HD.out.2 (by omega) (by omega) _).mono ?_
          rintro e w7 ⟨⟨k, hk, rfl⟩, rfl⟩
          have hkq : k < q := by omega
          have HKQ := Lib.hid hkq
          have HE4 := Lib.hid (whole_less (d := dot) HM0.out HM.out HT.out hkq)
          have HE5 := Lib.hid (La_nm dot (show ixN q T k < 6 by have := ixN_lt (T := T) (i := k) HM0.out; omega))
          obtain ⟨b, off, s, rfl, hs, c1⟩ := SS.read HRS.out.cells (show k < (nsN q T dot q).length by rw [nsN_len]; exact hkq)
          have hse : s = nm dot (ixN q T k) := by rw [nsN_get hkq] at hs; exact (Option.some.inj hs).symm
          have HSS := Lib.hid (HRZ.out s (List.mem_of_getElem? hs))
          have HLA := Lib.hid (show La s = cn (ixN q T k) by rw [hse]; exact HE5.out)
          clear hse hs
          have k0 : (0 : Int) ≤ (k : Int) := by omega
          have k1 : (k : Int) < (q : Int) := by omega
          have k2 : decide (k < q) = true := by simp; omega
          clear hk
          go_wp2_with fail
          refine (ol_any s HSS.out _).mono ?_
          rintro e w8 ⟨rfl, rfl⟩
          rw [HLA.out]
          obtain ⟨R, hR⟩ : ∃ R, R = nsN q T dot q := ⟨_, rfl⟩
          have hRN : R.length = q := by rw [hR]; exact HRN.out
          obtain ⟨vs, hvs⟩ : ∃ vs, vs = sliced (some ⟨b, off, none⟩) (k + 1) R.length cr 1 := ⟨_, rfl⟩
          obtain ⟨vt, hvt⟩ : ∃ vt, vt = sliced (some ⟨b, off, none⟩) 0 k cr 1 := ⟨_, rfl⟩
          have hrs : SS w8 (.slice (some ⟨b, off, none⟩) R.length cr) R := by rw [hRN, hR]; exact HRS.out
          have HSS := Lib.hid (show SS w8 vs (R.drop (k + 1)) by rw [hvs]; exact hrs.from (by omega))
          have HST := Lib.hid (show SS w8 vt (R.take k) by rw [hvt]; exact hrs.to (by omega))
          rw [hRN] at hvs
          have HVS := Lib.hid hvs
          have HVT := Lib.hid hvt
          have HLE := Lib.hid (show missTo (lsN q) (R.take k ++ R.drop (k + 1)) (lsN q).length = [cn (ixN q T k)] by rw [hR]; exact HE4.out)
          have HLX := Lib.hid (show extraTo (lsN q) (R.take k ++ R.drop (k + 1)) (R.take k ++ R.drop (k + 1)).length = [] by
            refine whole_extra (T := T) (d := dot) HM0.out HM.out (fun s hs => ?_)
            rw [← hR]
            rcases List.mem_append.1 hs with hs | hs
            · exact List.mem_of_mem_take hs
            · exact List.mem_of_mem_drop hs)
          have HLZ := Lib.hid (show Sz (R.take k ++ R.drop (k + 1)) from fun s hs => by
            have hz : Sz R := by rw [hR]; exact HRZ.out
            rcases List.mem_append.1 hs with hs | hs
            · exact hz s (List.mem_of_mem_take hs)
            · exact hz s (List.mem_of_mem_drop hs))
          have htl : (R.take k).length ≤ 6 := by rw [List.length_take]; omega
          have hdl : (R.drop (k + 1)).length ≤ 6 := by rw [List.length_drop]; omega
          have HK1 := Lib.hid (show ((k + 1 : Nat) : Int) = (k : Int) + 1 by omega)
          have hkc : k ≤ cr := by omega
          have k3 : (k : Int) + 1 ≤ (q : Int) := by omega
          have k4 : k + 1 ≤ q := by omega
          have HWR := Lib.hid (wrap_small ((k : Int) + 1) (by omega) (by omega))
          have k5 : (0 : Int) ≤ (k : Int) + 1 := by omega
          clear hvs hvt hR hrs
          obtain ⟨w7, hw7⟩ : ∃ w7, w7 = w8 := ⟨_, rfl⟩
          subst hw7
          have hS0 : Upd (fun _ => False) w7 w7.drew := (Upd.refl _ w7).drew
          obtain ⟨i9, hi9, y0, y1, y2⟩ := info_parts info9
          go_upto_region 20 with fail
          go_cut [17] (fun s wx => SS wx s (R.take k ++ R.drop (k + 1)) ∧ Upd (fun _ => False) w7 wx)
          case first =>
            refine wp_region_noPanic ?_
            refine wp_region_held (S := fun wx => Upd (fun _ => False) w7 wx) (by kernel_rfl) ?_
            refine wpAnyH_take (i := 1) (v := .slice (some ⟨b, off, none⟩) q cr) (List.getElem?_toArray.trans rfl) (by kernel_rfl) (by kernel_rfl) (by kernel_rfl) (fun _ _ _ h => h) (Or.inl ⟨by rfl, fun w _ => by rfl⟩) hS0 ?_
            try simp only [Act.put, List.setIfInBounds_toArray, List.set_cons_zero, List.set_cons_succ]
            refine wpAnyH_take (i := 2) (v := .int .i64 (k : Int)) (List.getElem?_toArray.trans rfl) (by kernel_rfl) (by kernel_rfl) (by kernel_rfl) (fun _ _ _ h => h) (Or.inl ⟨by rfl, fun w _ => by rfl⟩) hS0 ?_
            try simp only [Act.put, List.setIfInBounds_toArray, List.set_cons_zero, List.set_cons_succ]
            refine wpAnyH_take (i := 3) (v := vt) (List.getElem?_toArray.trans rfl) (by kernel_rfl) (by kernel_rfl) (by kernel_rfl) (fun _ _ _ h => h) (Or.inl ⟨by rfl, fun w _ => by rw [HVT.out]; go_simp⟩) hS0 ?_
            try simp only [Act.put, List.setIfInBounds_toArray, List.set_cons_zero, List.set_cons_succ]
            refine wpAnyH_take (i := 5) (v := .slice (some ⟨b, off, none⟩) q cr) (List.getElem?_toArray.trans rfl) (by kernel_rfl) (by kernel_rfl) (by kernel_rfl) (fun _ _ _ h => h) (Or.inl ⟨by rfl, fun w _ => by rfl⟩) hS0 ?_
            try simp only [Act.put, List.setIfInBounds_toArray, List.set_cons_zero, List.set_cons_succ]
            refine wpAnyH_take (i := 6) (v := .int .i64 (k : Int)) (List.getElem?_toArray.trans rfl) (by kernel_rfl) (by kernel_rfl) (by kernel_rfl) (fun _ _ _ h => h) (Or.inl ⟨by rfl, fun w _ => by rfl⟩) hS0 ?_
            try simp only [Act.put, List.setIfInBounds_toArray, List.set_cons_zero, List.set_cons_succ]
            refine wpAnyH_take (i := 7) (v := .int .i64 ((k + 1 : Nat) : Int)) (List.getElem?_toArray.trans rfl) (by kernel_rfl) (by kernel_rfl) (by kernel_rfl) (fun _ _ _ h => h) (Or.inl ⟨by rfl, fun w _ => by rw [HK1.out]; have hwr := HWR.out; go_simp⟩) hS0 ?_
            try simp only [Act.put, List.setIfInBounds_toArray, List.set_cons_zero, List.set_cons_succ]
            refine wpAnyH_take (i := 8) (v := vs) (List.getElem?_toArray.trans rfl) (by kernel_rfl) (by kernel_rfl) (by kernel_rfl) (fun _ _ _ h => h) (Or.inl ⟨by rfl, fun w _ => by rw [HVS.out]; go_simp⟩) hS0 ?_
            try simp only [Act.put, List.setIfInBounds_toArray, List.set_cons_zero, List.set_cons_succ]
            refine wpAnyH_ready (rs := [0]) (by kernel_rfl) (by simp) (AllReadyH.cons (List.getElem?_toArray.trans rfl) (fun K hK => ?_) AllReadyH.nil)
            go_simp
            have hS1 : Upd (fun _ => False) w7 (w7.drew.alloc (.cells #[] 9)) := hS0.alloc _
            have HS1 := Lib.hid hS1
            refine hK.out _ _ hS1 (fun _ => ?_)
            try simp only [Act.put, List.setIfInBounds_toArray, List.set_cons_zero, List.set_cons_succ]
            refine wpAnyH_ready (rs := [4]) (by kernel_rfl) (by simp) (AllReadyH.cons (List.getElem?_toArray.trans rfl) (fun K hK => ?_) AllReadyH.nil)
            refine step_append_src_own _ (by rfl) _ _ 24 24 (by rfl) w7.heap.size 9 i9 _ 1 16 Try.underlying24 hi9 y0 y1 y2 rfl (.slice (some ⟨w7.heap.size, 0, none⟩) 0 0) 0 [] (by rfl) (own_empty w7.drew w7.heap.size (Nat.le_refl _)) vt (R.take k).length (strV (R.take k)) (by rfl) (Src.ofSS Try.underlying24 (HST.out.upd HS1.out)) (by unfold maxLen; omega) (by omega) (by simp) ?_
            intro v5 w5 p1 p2 p3 p4
            rw [Nat.zero_add, List.nil_append] at p1
            have HO5 := Lib.hid p1
            have HS5 := Lib.hid (hS1.grown p2 (fun j hj hlt => by simp [Value.ownBlock] at hj; omega))
            have hS2 := HS5.out
            clear p1 p2 p3 p4
            refine hK.out _ _ hS2 (fun _ => ?_)
            try simp only [Act.put, List.setIfInBounds_toArray, List.set_cons_zero, List.set_cons_succ]
            refine wpAnyH_ready (rs := [9]) (by kernel_rfl) (by simp) (AllReadyH.cons (List.getElem?_toArray.trans rfl) (fun K hK => ?_) AllReadyH.nil)
            refine step_append_src_own _ (by rfl) _ _ 24 24 (by rfl) w7.heap.size 9 i9 _ 1 16 Try.underlying24 hi9 y0 y1 y2 rfl v5 (R.take k).length (strV (R.take k)) (by rfl) HO5.out vs (R.drop (k + 1)).length (strV (R.drop (k + 1))) (by rfl) (Src.ofSS Try.underlying24 (HSS.out.upd HS5.out)) (by unfold maxLen; omega) (by omega) HS5.out.size ?_
            intro v6 w6 p1 p2 p3 p4
            have HO6 := Lib.hid (show w6.ownsRow w7.heap.size 9 1 v6 (R.take k ++ R.drop (k + 1)).length (strV (R.take k ++ R.drop (k + 1))) by rw [strV_app, List.length_append]; exact p1)
            have HS6 := Lib.hid (hS2.grown p2 (fun j hj hlt => by have := own_ge HO5.out hj; omega))
            have hS3 := HS6.out
            clear p1 p2 p3 p4
            refine hK.out _ _ hS3 (fun _ => ?_)
            try simp only [Act.put, List.setIfInBounds_toArray, List.set_cons_zero, List.set_cons_succ]
            refine wpAnyH_take (i := 10) (v := v6) (List.getElem?_toArray.trans rfl) (by kernel_rfl) (by kernel_rfl) (by kernel_rfl) (fun _ _ _ h => h) (Or.inl ⟨by rfl, fun w _ => by rfl⟩) hS3 ?_
            try simp only [Act.put, List.setIfInBounds_toArray, List.set_cons_zero, List.set_cons_succ]
            refine wpAnyH_done (by kernel_rfl) ?_ _
            refine NoPanic.normal ?_
            go_wp2_with fail
            go_meet
            exact ⟨SS_own HO6.out, HS6.out⟩
          case rest =>
            obtain ⟨hs9, hu9⟩ := hcut
            have HR9 := Lib.hid hs9
            have HU9 := Lib.hid (HUw.out.trans' hu9)
            have HC9 := Lib.hid (HC.out.upd hu9)
            have hln : (R.take k ++ R.drop (k + 1)).length ≤ 12 := by rw [List.length_append]; omega
            generalize R.take k ++ R.drop (k + 1) = Z at *
            clear hs9 hu9
            go_wp2_with fail
            refine (missing_any _ _ (lsN q) Z _ HC9.out (lsN_sz q) (by rw [lsN_len]; omega) HR9.out HLZ.out (by omega)).mono ?_
            rintro e w4 ⟨V4, rfl, hS, hu⟩
            rw [HLE.out] at hS
            have HU9 := Lib.hid (HU9.out.trans' hu)
            have HR9 := Lib.hid (HR9.out.upd hu)
            have HC9 := Lib.hid (HC9.out.upd hu)
            have HS4 := Lib.hid (hS.upd ((Upd.refl (fun _ => False) w4).alloc (.cells (strV [cn (ixN q T k)]).toArray 9)))
            clear hS hu
            go_wp2_with fail
            refine (same_true' _ _ [cn (ixN q T k)] _ HS4.out (lit_SS [cn (ixN q T k)] (by simp) w4)).mono ?_
            rintro e w5 ⟨rfl, hu⟩
            have HU45 := Lib.hid (((Upd.refl (fun _ => False) w4).alloc (.cells (strV [cn (ixN q T k)]).toArray 9)).trans' hu)
            have HU9 := Lib.hid (HU9.out.trans' HU45.out)
            have HR9 := Lib.hid (HR9.out.upd HU45.out)
            have HC9 := Lib.hid (HC9.out.upd HU45.out)
            clear hu
            go_wp2_with fail
            refine (extra_any _ _ (lsN q) Z _ HC9.out HR9.out HLZ.out (by omega)).mono ?_
            rintro e w6 ⟨V6, rfl, hS, hu⟩
            rw [HLX.out] at hS
            obtain ⟨a6, c6, rfl⟩ := hS.len_nil
            have HU9 := Lib.hid (HU9.out.trans' hu)
            clear hS hu
            go_wp2_with fail
            refine (known_any _).mono ?_
            rintro e w7 ⟨rfl, hu⟩
            have HU9 := Lib.hid (HU9.out.trans' hu)
            clear hu
            go_wp2_with fail
            go_ret
            exact ⟨rfl, HU9.out⟩
end Go.Proofs.Ytaphlhggmdhffaa
