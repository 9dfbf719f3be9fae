import Derived.Test.YtckgcfkahffibaaFst
namespace Go.Proofs.Ytckgcfkahffibaa
open Go.RowKit
set_option linter.unusedVariables false
set_option linter.unusedSimpArgs false
theorem wr_1 (n : Nat) : ((DS.of (laid DS.new.ml (wlist n))).wr 0 (one 9)).1 = 0 := by rfl
set_option maxHeartbeats 2000000 in
set_option maxRecDepth 100000 in
theorem fails_any (n0 more0 : Int) (w : World) (h1 : -9223372036854775808 ≤ n0) (h2 : n0 ≤ 9223372036854775807) (h3 : -9223372036854775808 ≤ more0) (h4 : more0 ≤ 9223372036854775807) : Calls Try.prog 6 #[.int .i64 n0, .int .i64 more0] w fun e w' => e = .returned (.bool true) ∧ Upd (fun _ => False) w w' := by
  go_enter Try.func6, Try.ntmps6
  go_wp2_with fail
  refine (new_dsk w).mono ?_
  rintro e w1 ⟨k, S, rfl, hd, hs, hu⟩
  have HD := Lib.hid hd
  have HS := Lib.hid hs
  have HU := Lib.hid hu
  clear hd hs hu
  go_wp2_with fail
  refine (within_any n0 20 h1 h2 (by omega) (by omega) w1).mono ?_
  rintro e w1 ⟨⟨n, hn, rfl⟩, rfl⟩
  clear h1 h2
  go_wp2_with fail
  refine (within_any more0 10 h3 h4 (by omega) (by omega) w1).mono ?_
  rintro e w1 ⟨⟨m, hm, rfl⟩, rfl⟩
  clear h3 h4
  obtain ⟨M, hM, hM1, hM6⟩ : ∃ M : Nat, (1 : Int) + m = M ∧ 1 ≤ M ∧ M ≤ 11 := ⟨1 + m, by omega, by omega, by omega⟩
  go_wp2_with fail
  clear hM hm
  refine (fail_dsk k DS.new S n (by omega) w1 HD.out).mono ?_
  rintro e w2 ⟨rfl, hd, hu⟩
  have HD2 : Hid (Dsk w2 k (fst n 0) S) := by
    have e : ({ DS.new with left := max (n : Int) (-1) } : DS) = fst n 0 := by
      rw [Int.max_eq_left (by omega)]; rfl
    rw [e] at hd; exact hd
  have HU2 := Lib.hid (HU.out.trans hu (fun j hj h => by have := HS.out k HD.out.self; omega))
  obtain ⟨T, hT⟩ : ∃ T : Nat, T = n + M := ⟨_, rfl⟩
  have hnT : n < T := by omega
  have hT31 : T ≤ 31 := by omega
  have hTi : (n : Int) + (M : Int) = (T : Int) := by omega
  clear hd hu hn hT
  go_wp2_with fail
  go_loopw [6] (fun i wr => ∃ (q : Nat) (S : Nat → Prop), i = .int .i64 q ∧ q ≤ T ∧ Dsk wr k (fst n q) S ∧ (∀ j, S j → w.heap.size ≤ j) ∧ Upd (fun _ => False) w wr) (fun i _ => T - (intOf i).toNat)
  case atStart => exact ⟨0, S, rfl, Nat.zero_le _, HD2.out, HS.out, HU2.out⟩
  case round =>
    obtain ⟨q, S1, rfl, hq, hd, hs, hu⟩ := hrel
    have HDr := Lib.hid hd
    have HSr := Lib.hid hs
    have HUr := Lib.hid hu
    clear hd hs hu
    by_cases hlt : q < T
    · have b1 : (q : Int) < (T : Int) := by omega
      have b2 : (q : Int) + 1 = ((bOf q).toNat : Int) := byte_small q (by omega)
      have HB2 := Lib.hid b2
      have HWR := Lib.hid (fst_wr n q (by omega))
      generalize bOf q = bq at *
      clear b2
      have hq254 : q < 254 := by omega
      have HL := Lib.hid (fst_ws_len n q (by omega))
      go_wp2_with fail
      refine (block_int _ bq HB2.out wr).mono ?_
      rintro e w3 ⟨rfl, hu⟩
      have HD3 := Lib.hid (HDr.out.upd0 hu)
      have HU3 := Lib.hid (HUr.out.trans' hu)
      clear hu
      go_wp2_with fail
      refine (write_dsk k (fst n q) S1 (q : Int) (one bq) w3 HD3.out (one_len bq) (by have := HL.out; omega)).mono ?_
      rw [HWR.out]
      rintro e w4 ⟨rfl, S4, hd, hA, hs⟩
      have HD4 := Lib.hid hd
      have HS4 := Lib.hid (show ∀ j, S4 j → w.heap.size ≤ j from fun j hj => (hs j hj).elim (fun h => HSr.out j h) (fun h => Nat.le_trans HU3.out.size h))
      have HU4 := Lib.hid (HU3.out.trans hA (fun j hj h => by have := HSr.out j h; omega))
      clear hd hA hs
      have b3 : q + 1 ≤ T := by omega
      by_cases hqn : q < n
      all_goals
        simp only [hqn, if_true, if_false]
        clear b1 hlt
        go_wp2_with fail
        go_roundw
        case rel => exact ⟨q + 1, S4, by go_num, b3, HD4.out, HS4.out, HU4.out⟩
        case measure => simp [intOf]; omega
    · have hqT : q = T := by omega
      subst hqT
      have b1 : ¬ ((q : Int) < (q : Int)) := by omega
      have hq31 : q < 255 := by omega
      obtain ⟨f1, f2, f3, f4⟩ := fst_bad n q hnT hq31
      have HF3 := Lib.hid f3
      have HMAY := Lib.hid (show (fst n q).may 0 = 37 from may_gone (i := 0) (by omega) f2)
      have HCUT := Lib.hid (fst_cut n q hnT hq31)
      have HL := Lib.hid (fst_ws_len n q hq31)
      have HRD := Lib.hid (show (fst n q).rd 0 = one 0 by unfold DS.rd; rw [HMAY.out, if_neg (by omega)])
      have hwn : (fst n q).ws.length = n := by rw [f3, wlist_len]
      have HWN := Lib.hid hwn
      clear hlt hq f1 f2 f3 f4 hwn
      go_wp2_with fail
      refine (read_dsk k (fst n q) S1 0 wr HDr.out).mono ?_
      rw [HRD.out, HMAY.out]
      rintro e w3 ⟨rfl, hu⟩
      have HD3 := Lib.hid (HDr.out.upd0 hu)
      have HU3 := Lib.hid (HUr.out.trans' hu)
      clear hu
      go_wp2_with (refine wpList_var28 (by rfl) (by rfl) 8 (.tmp 56) (by rfl) (by rfl) (by rfl) (one 0) (one_len 0) (by rfl) (by rfl) ?c1)
      case c1 =>
      intro w4 hu _
      have HD4 := Lib.hid (HD3.out.upd0 hu)
      have HU4 := Lib.hid (HU3.out.trans' hu)
      clear hu
      go_wp2_with fail
      refine (cut_dsk k (fst n q) S1 1000 w4 HD4.out (by have := HL.out; omega) (by omega)).mono ?_
      rw [HCUT.out]
      rintro e w5 ⟨k2, S2, rfl, hx, hs, hu⟩
      have HD5 := Lib.hid (HD4.out.upd0 hu)
      have HX5 := Lib.hid hx
      have HS5 := Lib.hid (show ∀ j, S2 j → w.heap.size ≤ j from fun j hj => Nat.le_trans HU4.out.size (hs j hj))
      have HU5 := Lib.hid (HU4.out.trans' hu)
      clear hx hs hu
      go_wp2_with fail
      refine (writes_len k _ S1 n w5 HD5.out HWN.out (by omega)).mono ?_
      rintro e w6 ⟨⟨ao, c, rfl⟩, hu⟩
      have HX6 := Lib.hid (HX5.out.upd0 hu)
      have HU6 := Lib.hid (HU5.out.trans' hu)
      clear hu
      go_wp2_with fail
      obtain ⟨wo, rfl⟩ : ∃ wo : World, wo = wr := ⟨_, rfl⟩
      go_loopw [11] (fun i wr => ∃ p : Nat, i = .int .i64 p ∧ p ≤ q ∧ Dsk wr k2 (DS.of (laid DS.new.ml (wlist n))) S2 ∧ Upd (fun _ => False) w wr) (fun i _ => q - (intOf i).toNat)
      case atStart => exact ⟨0, rfl, Nat.zero_le _, HX6.out, HU6.out⟩
      case round =>
        obtain ⟨p, rfl, hp, hx, hu⟩ := hrel
        have HXp := Lib.hid hx
        have HUp := Lib.hid hu
        clear hx hu
        by_cases hlt : p < q
        · have d1 : (p : Int) < (q : Int) := by omega
          have d3 : p + 1 ≤ q := by omega
          have d4 : p < 255 := by omega
          have HMP := Lib.hid (show (DS.of (laid DS.new.ml (wlist n))).may p = 0 from may_ok d4 rfl)
          have HRP := Lib.hid (show (DS.of (laid DS.new.ml (wlist n))).rd p = if p < n then one (bOf p) else one 0 by
            unfold DS.rd; rw [HMP.out, if_pos rfl]; exact laid_wlist n p)
          clear hlt
          go_wp2_with fail
          refine (read_dsk k2 _ S2 p wr HXp.out).mono ?_
          rw [HRP.out, HMP.out]
          rintro e w7 ⟨rfl, hu⟩
          have HX7 := Lib.hid (HXp.out.upd0 hu)
          have HU7 := Lib.hid (HUp.out.trans' hu)
          clear hu
          by_cases hpn : p < n
          · rw [if_pos hpn]
            have b2 : (p : Int) + 1 = ((bOf p).toNat : Int) := byte_small p (by omega)
            have HB2 := Lib.hid b2
            generalize bOf p = bp at *
            clear b2
            go_wp2_with (refine wpList_var28 (by rfl) (by rfl) 12 (.tmp 84) (by rfl) (by rfl) (by rfl) (one bp) (one_len bp) (by rfl) (by rfl) ?c1)
            case c1 =>
            intro w8 hu hr
            have HX8 := Lib.hid (HX7.out.upd0 hu)
            have HU8 := Lib.hid (HU7.out.trans' hu)
            generalize w7.heap.size = gl at *
            have hlb : (bytesV (one bp)).length = 64 := by rw [bytesV_length, one_len]
            have hsz : (Try.prog.info? 28).map (·.size) = some (bytesV (one bp)).length := by rw [hlb]; exact size28
            have hq : ∀ w, (binOp .neq 28 (.agg (bytesV (one bp)).toArray) (.agg (bytesV (one bp)).toArray)).run Try.prog w = .ok (.bool false) w := fun w => by rw [neq_block _ _ (one_len bp) (one_len bp)]; simp
            have e1 : (p : Int) < (n : Int) := by omega
            have e2 : ¬ ((n : Int) ≤ (p : Int)) := by omega
            have e3 : IntKind.i64.wrap ((p : Int) + 1) = (p : Int) + 1 := by rw [IntKind.wrap_i64]; omega
            have e4 : IntKind.u8.wrap ((p : Int) + 1) = (p : Int) + 1 := by rw [IntKind.wrap_u8]; omega
            go_wp2_with fail
            refine wp_region_noPanic ?_
            have hS0 : Upd (fun _ => False) w8 w8.drew := (Upd.refl _ w8).drew
            refine wp_region_held (S := fun wx => Upd (fun _ => False) w8 wx) (by kernel_rfl) ?_
            refine wpAnyH_take (i := 0) (v := .int .i64 0) (List.getElem?_toArray.trans rfl) (by kernel_rfl) (by kernel_rfl) (by kernel_rfl) (fun _ _ _ h => h) (Or.inl ⟨by rfl, fun w _ => by rfl⟩) hS0 ?_
            simp only [Act.put, List.setIfInBounds_toArray, List.set_cons_zero, List.set_cons_succ]
            refine wpAnyH_take (i := 1) (v := .bool false) (List.getElem?_toArray.trans rfl) (by kernel_rfl) (by kernel_rfl) (by kernel_rfl) (fun _ _ _ h => h) (Or.inl ⟨by rfl, fun w _ => by go_simp⟩) hS0 ?_
            simp only [Act.put, List.setIfInBounds_toArray, List.set_cons_zero, List.set_cons_succ]
            refine wpAnyH_take (i := 2) (v := .bool false) (List.getElem?_toArray.trans rfl) (by kernel_rfl) (by kernel_rfl) (by kernel_rfl) (fun _ _ _ h => h) (Or.inl ⟨by rfl, fun w _ => by rfl⟩) hS0 ?_
            simp only [Act.put, List.setIfInBounds_toArray, List.set_cons_zero, List.set_cons_succ]
            refine wpAnyH_take (i := 3) (v := .int .i64 (p : Int)) (List.getElem?_toArray.trans rfl) (by kernel_rfl) (by kernel_rfl) (by kernel_rfl) (fun _ _ _ h => h) (Or.inl ⟨by rfl, fun w _ => by rfl⟩) hS0 ?_
            simp only [Act.put, List.setIfInBounds_toArray, List.set_cons_zero, List.set_cons_succ]
            refine wpAnyH_take (i := 4) (v := .int .i64 (n : Int)) (List.getElem?_toArray.trans rfl) (by kernel_rfl) (by kernel_rfl) (by kernel_rfl) (fun _ _ _ h => h) (Or.inl ⟨by rfl, fun w _ => by rfl⟩) hS0 ?_
            simp only [Act.put, List.setIfInBounds_toArray, List.set_cons_zero, List.set_cons_succ]
            refine wpAnyH_take (i := 5) (v := .bool true) (List.getElem?_toArray.trans rfl) (by kernel_rfl) (by kernel_rfl) (by kernel_rfl) (fun _ _ _ h => h) (Or.inl ⟨by rfl, fun w _ => by go_simp⟩) hS0 ?_
            simp only [Act.put, List.setIfInBounds_toArray, List.set_cons_zero, List.set_cons_succ]
            refine wpAnyH_take (i := 6) (v := .bool true) (List.getElem?_toArray.trans rfl) (by kernel_rfl) (by kernel_rfl) (by kernel_rfl) (fun _ _ _ h => h) (Or.inl ⟨by rfl, fun w _ => by rfl⟩) hS0 ?_
            simp only [Act.put, List.setIfInBounds_toArray, List.set_cons_zero, List.set_cons_succ]
            refine wpAnyH_take (i := 7) (v := .agg (bytesV (one bp)).toArray) (List.getElem?_toArray.trans rfl) (by kernel_rfl) (by kernel_rfl) (by kernel_rfl) (fun _ _ _ h => h) (yieldsIf_load_mid (by rfl) 28 _ rfl gl 0 rfl (bytesV (one bp)) _ (fun w h => range_upd hr h (fun h => h)) Try.underlying28 rfl hsz) hS0 ?_
            simp only [Act.put, List.setIfInBounds_toArray, List.set_cons_zero, List.set_cons_succ]
            refine wpAnyH_take (i := 8) (v := .int .i64 (p : Int)) (List.getElem?_toArray.trans rfl) (by kernel_rfl) (by kernel_rfl) (by kernel_rfl) (fun _ _ _ h => h) (Or.inl ⟨by rfl, fun w _ => by rfl⟩) hS0 ?_
            simp only [Act.put, List.setIfInBounds_toArray, List.set_cons_zero, List.set_cons_succ]
            refine wpAnyH_take (i := 9) (v := .int .i64 ((p : Int) + 1)) (List.getElem?_toArray.trans rfl) (by kernel_rfl) (by kernel_rfl) (by kernel_rfl) (fun _ _ _ h => h) (Or.inl ⟨by rfl, fun w _ => by go_simp⟩) hS0 ?_
            simp only [Act.put, List.setIfInBounds_toArray, List.set_cons_zero, List.set_cons_succ]
            refine wpAnyH_take (i := 10) (v := .int .u8 ((p : Int) + 1)) (List.getElem?_toArray.trans rfl) (by kernel_rfl) (by kernel_rfl) (by kernel_rfl) (fun _ _ _ h => h) (Or.inl ⟨by rfl, fun w _ => by go_simp⟩) hS0 ?_
            simp only [Act.put, List.setIfInBounds_toArray, List.set_cons_zero, List.set_cons_succ]
            refine wpAnyH_ready (rs := [11]) (by kernel_rfl) (by simp) (AllReadyH.cons (List.getElem?_toArray.trans rfl) (fun K hK => ?_) AllReadyH.nil)
            go_simp
            refine (block_int _ bp HB2.out _).mono ?_
            rintro e w' ⟨rfl, hA⟩
            have hS1 := hS0.trans' hA
            refine hK.out _ _ hS1 (fun _ => ?_)
            try simp only [Act.put, List.setIfInBounds_toArray, List.set_cons_zero, List.set_cons_succ]
            refine wpAnyH_take (i := 12) (v := .bool false) (List.getElem?_toArray.trans rfl) (by kernel_rfl) (by kernel_rfl) (by kernel_rfl) (fun _ _ _ h => h) (Or.inl ⟨by rfl, fun w _ => run_value (hq w)⟩) hS1 ?_
            simp only [Act.put, List.setIfInBounds_toArray, List.set_cons_zero, List.set_cons_succ]
            refine wpAnyH_take (i := 13) (v := .bool false) (List.getElem?_toArray.trans rfl) (by kernel_rfl) (by kernel_rfl) (by kernel_rfl) (fun _ _ _ h => h) (Or.inl ⟨by rfl, fun w _ => by go_simp⟩) hS1 ?_
            simp only [Act.put, List.setIfInBounds_toArray, List.set_cons_zero, List.set_cons_succ]
            refine wpAnyH_take (i := 14) (v := .bool false) (List.getElem?_toArray.trans rfl) (by kernel_rfl) (by kernel_rfl) (by kernel_rfl) (fun _ _ _ h => h) (Or.inl ⟨by rfl, fun w _ => by go_simp⟩) hS1 ?_
            simp only [Act.put, List.setIfInBounds_toArray, List.set_cons_zero, List.set_cons_succ]
            refine wpAnyH_take (i := 15) (v := .bool false) (List.getElem?_toArray.trans rfl) (by kernel_rfl) (by kernel_rfl) (by kernel_rfl) (fun _ _ _ h => h) (Or.inl ⟨by rfl, fun w _ => by rfl⟩) hS1 ?_
            simp only [Act.put, List.setIfInBounds_toArray, List.set_cons_zero, List.set_cons_succ]
            refine wpAnyH_take (i := 16) (v := .int .i64 (p : Int)) (List.getElem?_toArray.trans rfl) (by kernel_rfl) (by kernel_rfl) (by kernel_rfl) (fun _ _ _ h => h) (Or.inl ⟨by rfl, fun w _ => by rfl⟩) hS1 ?_
            simp only [Act.put, List.setIfInBounds_toArray, List.set_cons_zero, List.set_cons_succ]
            refine wpAnyH_take (i := 17) (v := .int .i64 (n : Int)) (List.getElem?_toArray.trans rfl) (by kernel_rfl) (by kernel_rfl) (by kernel_rfl) (fun _ _ _ h => h) (Or.inl ⟨by rfl, fun w _ => by rfl⟩) hS1 ?_
            simp only [Act.put, List.setIfInBounds_toArray, List.set_cons_zero, List.set_cons_succ]
            refine wpAnyH_take (i := 18) (v := .bool false) (List.getElem?_toArray.trans rfl) (by kernel_rfl) (by kernel_rfl) (by kernel_rfl) (fun _ _ _ h => h) (Or.inl ⟨by rfl, fun w _ => by go_simp⟩) hS1 ?_
            simp only [Act.put, List.setIfInBounds_toArray, List.set_cons_zero, List.set_cons_succ]
            refine wpAnyH_take (i := 19) (v := .bool false) (List.getElem?_toArray.trans rfl) (by kernel_rfl) (by kernel_rfl) (by kernel_rfl) (fun _ _ _ h => h) (Or.inl ⟨by rfl, fun w _ => by rfl⟩) hS1 ?_
            simp only [Act.put, List.setIfInBounds_toArray, List.set_cons_zero, List.set_cons_succ]
            refine wpAnyH_take (i := 20) (v := undef) (List.getElem?_toArray.trans rfl) (by kernel_rfl) (by kernel_rfl) (by kernel_rfl) (fun _ _ _ h => h) (Or.inr ⟨by rfl, rfl⟩) hS1 ?_
            simp only [Act.put, List.setIfInBounds_toArray, List.set_cons_zero, List.set_cons_succ]
            refine wpAnyH_take (i := 21) (v := undef) (List.getElem?_toArray.trans rfl) (by kernel_rfl) (by kernel_rfl) (by kernel_rfl) (fun _ _ _ h => h) (Or.inr ⟨by rfl, rfl⟩) hS1 ?_
            simp only [Act.put, List.setIfInBounds_toArray, List.set_cons_zero, List.set_cons_succ]
            refine wpAnyH_take (i := 22) (v := undef) (List.getElem?_toArray.trans rfl) (by kernel_rfl) (by kernel_rfl) (by kernel_rfl) (fun _ _ _ h => h) (Or.inr ⟨by rfl, rfl⟩) hS1 ?_
            simp only [Act.put, List.setIfInBounds_toArray, List.set_cons_zero, List.set_cons_succ]
            refine wpAnyH_take (i := 23) (v := .bool false) (List.getElem?_toArray.trans rfl) (by kernel_rfl) (by kernel_rfl) (by kernel_rfl) (fun _ _ _ h => h) (Or.inl ⟨by rfl, fun w _ => by go_simp⟩) hS1 ?_
            simp only [Act.put, List.setIfInBounds_toArray, List.set_cons_zero, List.set_cons_succ]
            refine wpAnyH_take (i := 24) (v := .bool false) (List.getElem?_toArray.trans rfl) (by kernel_rfl) (by kernel_rfl) (by kernel_rfl) (fun _ _ _ h => h) (Or.inl ⟨by rfl, fun w _ => by go_simp⟩) hS1 ?_
            simp only [Act.put, List.setIfInBounds_toArray, List.set_cons_zero, List.set_cons_succ]
            refine wpAnyH_done (by kernel_rfl) ?_ _
            refine NoPanic.normal ?_
            have HX9 := Lib.hid (HX8.out.upd0 hS1)
            have HU9 := Lib.hid (HU8.out.trans' hS1)
            go_wp2_with fail
            go_roundw
            case rel => exact ⟨p + 1, by go_num, d3, HX9.out, HU9.out⟩
            case measure => simp [intOf]; omega
          · rw [if_neg hpn]
            go_wp2_with (refine wpList_var28 (by rfl) (by rfl) 12 (.tmp 84) (by rfl) (by rfl) (by rfl) (one 0) (one_len 0) (by rfl) (by rfl) ?c1)
            case c1 =>
            intro w8 hu hr
            have HX8 := Lib.hid (HX7.out.upd0 hu)
            have HU8 := Lib.hid (HU7.out.trans' hu)
            generalize w7.heap.size = gl at *
            have hlb : (bytesV (one 0)).length = 64 := by rw [bytesV_length, one_len]
            have hsz : (Try.prog.info? 28).map (·.size) = some (bytesV (one 0)).length := by rw [hlb]; exact size28
            have hq : ∀ w, (binOp .neq 28 (.agg (bytesV (one 0)).toArray) (.agg (bytesV (one 0)).toArray)).run Try.prog w = .ok (.bool false) w := fun w => by rw [neq_block _ _ (one_len 0) (one_len 0)]; simp
            have e1 : ¬ ((p : Int) < (n : Int)) := by omega
            have e2 : (n : Int) ≤ (p : Int) := by omega
            go_wp2_with fail
            refine wp_region_noPanic ?_
            have hS0 : Upd (fun _ => False) w8 w8.drew := (Upd.refl _ w8).drew
            refine wp_region_held (S := fun wx => Upd (fun _ => False) w8 wx) (by kernel_rfl) ?_
            refine wpAnyH_take (i := 0) (v := .int .i64 0) (List.getElem?_toArray.trans rfl) (by kernel_rfl) (by kernel_rfl) (by kernel_rfl) (fun _ _ _ h => h) (Or.inl ⟨by rfl, fun w _ => by rfl⟩) hS0 ?_
            simp only [Act.put, List.setIfInBounds_toArray, List.set_cons_zero, List.set_cons_succ]
            refine wpAnyH_take (i := 1) (v := .bool false) (List.getElem?_toArray.trans rfl) (by kernel_rfl) (by kernel_rfl) (by kernel_rfl) (fun _ _ _ h => h) (Or.inl ⟨by rfl, fun w _ => by go_simp⟩) hS0 ?_
            simp only [Act.put, List.setIfInBounds_toArray, List.set_cons_zero, List.set_cons_succ]
            refine wpAnyH_take (i := 2) (v := .bool false) (List.getElem?_toArray.trans rfl) (by kernel_rfl) (by kernel_rfl) (by kernel_rfl) (fun _ _ _ h => h) (Or.inl ⟨by rfl, fun w _ => by rfl⟩) hS0 ?_
            simp only [Act.put, List.setIfInBounds_toArray, List.set_cons_zero, List.set_cons_succ]
            refine wpAnyH_take (i := 3) (v := .int .i64 (p : Int)) (List.getElem?_toArray.trans rfl) (by kernel_rfl) (by kernel_rfl) (by kernel_rfl) (fun _ _ _ h => h) (Or.inl ⟨by rfl, fun w _ => by rfl⟩) hS0 ?_
            simp only [Act.put, List.setIfInBounds_toArray, List.set_cons_zero, List.set_cons_succ]
            refine wpAnyH_take (i := 4) (v := .int .i64 (n : Int)) (List.getElem?_toArray.trans rfl) (by kernel_rfl) (by kernel_rfl) (by kernel_rfl) (fun _ _ _ h => h) (Or.inl ⟨by rfl, fun w _ => by rfl⟩) hS0 ?_
            simp only [Act.put, List.setIfInBounds_toArray, List.set_cons_zero, List.set_cons_succ]
            refine wpAnyH_take (i := 5) (v := .bool false) (List.getElem?_toArray.trans rfl) (by kernel_rfl) (by kernel_rfl) (by kernel_rfl) (fun _ _ _ h => h) (Or.inl ⟨by rfl, fun w _ => by go_simp⟩) hS0 ?_
            simp only [Act.put, List.setIfInBounds_toArray, List.set_cons_zero, List.set_cons_succ]
            refine wpAnyH_take (i := 6) (v := .bool false) (List.getElem?_toArray.trans rfl) (by kernel_rfl) (by kernel_rfl) (by kernel_rfl) (fun _ _ _ h => h) (Or.inl ⟨by rfl, fun w _ => by rfl⟩) hS0 ?_
            simp only [Act.put, List.setIfInBounds_toArray, List.set_cons_zero, List.set_cons_succ]
            refine wpAnyH_take (i := 7) (v := undef) (List.getElem?_toArray.trans rfl) (by kernel_rfl) (by kernel_rfl) (by kernel_rfl) (fun _ _ _ h => h) (Or.inr ⟨by rfl, rfl⟩) hS0 ?_
            simp only [Act.put, List.setIfInBounds_toArray, List.set_cons_zero, List.set_cons_succ]
            refine wpAnyH_take (i := 8) (v := undef) (List.getElem?_toArray.trans rfl) (by kernel_rfl) (by kernel_rfl) (by kernel_rfl) (fun _ _ _ h => h) (Or.inr ⟨by rfl, rfl⟩) hS0 ?_
            simp only [Act.put, List.setIfInBounds_toArray, List.set_cons_zero, List.set_cons_succ]
            refine wpAnyH_take (i := 9) (v := undef) (List.getElem?_toArray.trans rfl) (by kernel_rfl) (by kernel_rfl) (by kernel_rfl) (fun _ _ _ h => h) (Or.inr ⟨by rfl, rfl⟩) hS0 ?_
            simp only [Act.put, List.setIfInBounds_toArray, List.set_cons_zero, List.set_cons_succ]
            refine wpAnyH_take (i := 10) (v := undef) (List.getElem?_toArray.trans rfl) (by kernel_rfl) (by kernel_rfl) (by kernel_rfl) (fun _ _ _ h => h) (Or.inr ⟨by rfl, rfl⟩) hS0 ?_
            simp only [Act.put, List.setIfInBounds_toArray, List.set_cons_zero, List.set_cons_succ]
            refine wpAnyH_take (i := 11) (v := undef) (List.getElem?_toArray.trans rfl) (by kernel_rfl) (by kernel_rfl) (by kernel_rfl) (fun _ _ _ h => h) (Or.inr ⟨by rfl, rfl⟩) hS0 ?_
            simp only [Act.put, List.setIfInBounds_toArray, List.set_cons_zero, List.set_cons_succ]
            refine wpAnyH_take (i := 12) (v := undef) (List.getElem?_toArray.trans rfl) (by kernel_rfl) (by kernel_rfl) (by kernel_rfl) (fun _ _ _ h => h) (Or.inr ⟨by rfl, rfl⟩) hS0 ?_
            simp only [Act.put, List.setIfInBounds_toArray, List.set_cons_zero, List.set_cons_succ]
            refine wpAnyH_take (i := 13) (v := .bool false) (List.getElem?_toArray.trans rfl) (by kernel_rfl) (by kernel_rfl) (by kernel_rfl) (fun _ _ _ h => h) (Or.inl ⟨by rfl, fun w _ => by go_simp⟩) hS0 ?_
            simp only [Act.put, List.setIfInBounds_toArray, List.set_cons_zero, List.set_cons_succ]
            refine wpAnyH_take (i := 14) (v := .bool false) (List.getElem?_toArray.trans rfl) (by kernel_rfl) (by kernel_rfl) (by kernel_rfl) (fun _ _ _ h => h) (Or.inl ⟨by rfl, fun w _ => by go_simp⟩) hS0 ?_
            simp only [Act.put, List.setIfInBounds_toArray, List.set_cons_zero, List.set_cons_succ]
            refine wpAnyH_take (i := 15) (v := .bool false) (List.getElem?_toArray.trans rfl) (by kernel_rfl) (by kernel_rfl) (by kernel_rfl) (fun _ _ _ h => h) (Or.inl ⟨by rfl, fun w _ => by rfl⟩) hS0 ?_
            simp only [Act.put, List.setIfInBounds_toArray, List.set_cons_zero, List.set_cons_succ]
            refine wpAnyH_take (i := 16) (v := .int .i64 (p : Int)) (List.getElem?_toArray.trans rfl) (by kernel_rfl) (by kernel_rfl) (by kernel_rfl) (fun _ _ _ h => h) (Or.inl ⟨by rfl, fun w _ => by rfl⟩) hS0 ?_
            simp only [Act.put, List.setIfInBounds_toArray, List.set_cons_zero, List.set_cons_succ]
            refine wpAnyH_take (i := 17) (v := .int .i64 (n : Int)) (List.getElem?_toArray.trans rfl) (by kernel_rfl) (by kernel_rfl) (by kernel_rfl) (fun _ _ _ h => h) (Or.inl ⟨by rfl, fun w _ => by rfl⟩) hS0 ?_
            simp only [Act.put, List.setIfInBounds_toArray, List.set_cons_zero, List.set_cons_succ]
            refine wpAnyH_take (i := 18) (v := .bool true) (List.getElem?_toArray.trans rfl) (by kernel_rfl) (by kernel_rfl) (by kernel_rfl) (fun _ _ _ h => h) (Or.inl ⟨by rfl, fun w _ => by go_simp⟩) hS0 ?_
            simp only [Act.put, List.setIfInBounds_toArray, List.set_cons_zero, List.set_cons_succ]
            refine wpAnyH_take (i := 19) (v := .bool true) (List.getElem?_toArray.trans rfl) (by kernel_rfl) (by kernel_rfl) (by kernel_rfl) (fun _ _ _ h => h) (Or.inl ⟨by rfl, fun w _ => by rfl⟩) hS0 ?_
            simp only [Act.put, List.setIfInBounds_toArray, List.set_cons_zero, List.set_cons_succ]
            refine wpAnyH_take (i := 20) (v := .agg (bytesV (one 0)).toArray) (List.getElem?_toArray.trans rfl) (by kernel_rfl) (by kernel_rfl) (by kernel_rfl) (fun _ _ _ h => h) (yieldsIf_load_mid (by rfl) 28 _ rfl gl 0 rfl (bytesV (one 0)) _ (fun w h => range_upd hr h (fun h => h)) Try.underlying28 rfl hsz) hS0 ?_
            simp only [Act.put, List.setIfInBounds_toArray, List.set_cons_zero, List.set_cons_succ]
            refine wpAnyH_ready (rs := [21]) (by kernel_rfl) (by simp) (AllReadyH.cons (List.getElem?_toArray.trans rfl) (fun K hK => ?_) AllReadyH.nil)
            go_simp
            refine (block_one 0 _).mono ?_
            rintro e w' ⟨rfl, hA⟩
            have hS1 := hS0.trans' hA
            refine hK.out _ _ hS1 (fun _ => ?_)
            try simp only [Act.put, List.setIfInBounds_toArray, List.set_cons_zero, List.set_cons_succ]
            refine wpAnyH_take (i := 22) (v := .bool false) (List.getElem?_toArray.trans rfl) (by kernel_rfl) (by kernel_rfl) (by kernel_rfl) (fun _ _ _ h => h) (Or.inl ⟨by rfl, fun w _ => run_value (hq w)⟩) hS1 ?_
            simp only [Act.put, List.setIfInBounds_toArray, List.set_cons_zero, List.set_cons_succ]
            refine wpAnyH_take (i := 23) (v := .bool false) (List.getElem?_toArray.trans rfl) (by kernel_rfl) (by kernel_rfl) (by kernel_rfl) (fun _ _ _ h => h) (Or.inl ⟨by rfl, fun w _ => by go_simp⟩) hS1 ?_
            simp only [Act.put, List.setIfInBounds_toArray, List.set_cons_zero, List.set_cons_succ]
            refine wpAnyH_take (i := 24) (v := .bool false) (List.getElem?_toArray.trans rfl) (by kernel_rfl) (by kernel_rfl) (by kernel_rfl) (fun _ _ _ h => h) (Or.inl ⟨by rfl, fun w _ => by go_simp⟩) hS1 ?_
            simp only [Act.put, List.setIfInBounds_toArray, List.set_cons_zero, List.set_cons_succ]
            refine wpAnyH_done (by kernel_rfl) ?_ _
            refine NoPanic.normal ?_
            have HX9 := Lib.hid (HX8.out.upd0 hS1)
            have HU9 := Lib.hid (HU8.out.trans' hS1)
            go_wp2_with fail
            go_roundw
            case rel => exact ⟨p + 1, by go_num, d3, HX9.out, HU9.out⟩
            case measure => simp [intOf]; omega
        · have hpq : p = q := by omega
          subst hpq
          have d1 : ¬ ((p : Int) < (p : Int)) := by omega
          have HMP := Lib.hid (wr_1 n)
          clear hlt hp
          go_wp2_with fail
          refine (block_one 9 wr).mono ?_
          rintro e w7 ⟨rfl, hu⟩
          have HX7 := Lib.hid (HXp.out.upd0 hu)
          have HU7 := Lib.hid (HUp.out.trans' hu)
          clear hu
          go_wp2_with fail
          refine (write_dsk k2 _ S2 0 (one 9) w7 HX7.out (one_len 9) (by simp [DS.of])).mono ?_
          rintro e w8 ⟨he, S8, hd, hA, hs⟩
          rw [HMP.out] at he
          subst he
          have HU8 := Lib.hid (HU7.out.trans hA (fun j hj h => by have := HS5.out j h; omega))
          clear hd hA hs
          go_wp2_with fail
          refine (known_any _).mono ?_
          rintro e w9 ⟨rfl, hu⟩
          have HF := Lib.hid (HU8.out.trans' hu)
          clear hu
          go_wp2
          go_ret
          exact ⟨rfl, HF.out⟩
end Go.Proofs.Ytckgcfkahffibaa
