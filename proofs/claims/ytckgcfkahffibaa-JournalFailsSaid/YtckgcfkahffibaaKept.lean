import Derived.Test.YtckgcfkahffibaaKnown
namespace Go.Proofs.Ytckgcfkahffibaa
open Go.RowKit
set_option linter.unusedVariables false
set_option linter.unusedSimpArgs false
/-- A disk on which the first i blocks were written. -/
def kst : Nat → DS
  | 0 => DS.new
  | i + 1 => (kst i).put i (one (UInt8.ofNat (i + 1))) (-1)
theorem kst_left : ∀ i, (kst i).left = -1 ∧ (kst i).gone = false
  | 0 => ⟨rfl, rfl⟩
  | i + 1 => ⟨rfl, (kst_left i).2⟩
theorem kst_len : ∀ i, (kst i).ws.length = i
  | 0 => rfl
  | i + 1 => by simp [kst, DS.put, kst_len i]
theorem kst_at : ∀ i j, j < i → ∃ b, (kst i).ws[j]? = some (j, b)
  | 0, j, h => by omega
  | i + 1, j, h => by
    simp only [kst, DS.put]
    by_cases e : j = i
    · subst e
      exact ⟨one (UInt8.ofNat (j + 1)), by rw [List.getElem?_append_right (by rw [kst_len]; omega), kst_len, Nat.sub_self]; rfl⟩
    · obtain ⟨b, hb⟩ := kst_at i j (by omega)
      exact ⟨b, by rw [List.getElem?_append_left (by rw [kst_len]; omega)]; exact hb⟩
theorem kst_wr (i : Nat) (hi : i < 255) (b : List UInt8) : (kst i).wr i b = (0, (kst i).put i b (-1)) := by
  have h := kst_left i
  have hm : (kst i).may i = 0 := by
    unfold DS.may; rw [if_neg (by omega), h.2]; simp
  unfold DS.wr
  rw [if_neg (by omega), h.1, if_neg (by omega)]
  simp
theorem block_int (x : Int) (b : UInt8) (h : x = (b.toNat : Int)) (w : World) : Calls Try.prog 15 #[.int .u8 x] w fun e w' => e = .returned (.agg (bytesV (one b)).toArray) ∧ Upd (fun _ => False) w w' := by
  rw [h]; exact block_one b w
theorem wf_i64 {n : Int} (h : (Lit.int .i64 n).wf = true) : -9223372036854775808 ≤ n ∧ n ≤ 9223372036854775807 := by
  simp [Lit.wf] at h
  exact h
theorem byte_small (i : Nat) (h : i < 255) : (i : Int) + 1 = ((UInt8.ofNat (i + 1)).toNat : Int) := by
  rw [UInt8.toNat_ofNat']; omega

set_option maxHeartbeats 2000000 in
set_option maxRecDepth 100000 in
theorem kept_any (n : Int) (w : World) (h1 : -9223372036854775808 ≤ n) (h2 : n ≤ 9223372036854775807) : Calls Try.prog 3 #[.int .i64 n] w fun e w' => e = .returned (.bool true) ∧ Upd (fun _ => False) w w' := by
  go_enter Try.func3, Try.ntmps3
  go_wp2_with fail
  refine (new_dsk w).mono ?_
  rintro e w1 ⟨k, S, rfl, hd, hs, hu⟩
  have HD := Lib.hid hd
  have HS := Lib.hid hs
  have HU := Lib.hid hu
  clear hd hs hu
  go_wp2_with fail
  refine (within_any n 5 h1 h2 (by omega) (by omega) w1).mono ?_
  rintro e w1 ⟨⟨r, hr, rfl⟩, rfl⟩
  clear h1 h2
  go_wp2_with fail
  obtain ⟨N, hN, hN1, hN6⟩ : ∃ N : Nat, (1 : Int) + r = N ∧ 1 ≤ N ∧ N ≤ 6 := ⟨1 + r, by omega, by omega, by omega⟩
  rw [hN]
  clear hr hN
  go_loopw [4] (fun i wr => ∃ (q : Nat) (S : Nat → Prop), i = .int .i64 q ∧ q ≤ N ∧ Dsk wr k (kst q) S ∧ (∀ j, S j → w.heap.size ≤ j) ∧ Upd (fun _ => False) w wr) (fun i _ => N - (intOf i).toNat)
  case atStart => exact ⟨0, S, rfl, Nat.zero_le _, HD.out, HS.out, HU.out⟩
  case round =>
    obtain ⟨q, S1, rfl, hq, hd, hs, hu⟩ := hrel
    have HDr := Lib.hid hd
    have HSr := Lib.hid hs
    have HUr := Lib.hid hu
    clear hd hs hu
    by_cases hlt : q < N
    · have b1 : (q : Int) < (N : Int) := by omega
      have b2 := byte_small q (by omega)
      obtain ⟨bq, hbq⟩ : ∃ b, b = UInt8.ofNat (q + 1) := ⟨_, rfl⟩
      rw [← hbq] at b2
      have HBQ := Lib.hid hbq
      have HB2 := Lib.hid b2
      clear hlt hbq b2
      go_wp2_with fail
      refine (block_int _ bq HB2.out wr).mono ?_
      rintro e w2 ⟨rfl, hu⟩
      have HD2 := Lib.hid (HDr.out.upd0 hu)
      have HU2 := Lib.hid (HUr.out.trans' hu)
      clear hu
      go_wp2_with fail
      refine (write_dsk k (kst q) S1 (q : Int) (one bq) w2 HD2.out (one_len bq) (by rw [kst_len]; omega)).mono ?_
      rw [kst_wr q (by omega)]
      rintro e w3 ⟨rfl, S3, hd, hA, hs⟩
      have HD3 : Hid (Dsk w3 k (kst (q + 1)) S3) := by rw [HBQ.out] at hd; exact hd
      have HS3 := Lib.hid (show ∀ j, S3 j → w.heap.size ≤ j from fun j hj => (hs j hj).elim (fun h => HSr.out j h) (fun h => Nat.le_trans HU2.out.size h))
      have HU3 := Lib.hid (HU2.out.trans hA (fun j hj h => by have := HSr.out j h; omega))
      clear hd hA hs
      have b3 : q + 1 ≤ N := by omega
      clear b1
      go_wp2_with fail
      go_roundw
      case rel => exact ⟨q + 1, S3, by go_num, b3, HD3.out, HS3.out, HU3.out⟩
      case measure => simp [intOf]; omega
    · have hqn : q = N := by omega
      subst hqn
      have b1 : ¬ ((q : Int) < (q : Int)) := by omega
      clear hlt hq
      go_wp2_with fail
      refine (writes_dsk k (kst q) S1 wr HDr.out (by rw [kst_len]; omega)).mono ?_
      rintro e w2 ⟨V, rfl, hV, hu, hsh⟩
      rw [kst_len] at hV hsh
      obtain ⟨g, c, rfl⟩ : ∃ g c, V = .slice (some ⟨g, 0, none⟩) q c := by
        rcases hsh with rfl | h
        · rcases hV.2 with ⟨_, h⟩ | ⟨_, _, _, h, _⟩
          · omega
          · cases h
        · exact h
      obtain ⟨C, hg, hC, hge⟩ : ∃ C, w2.heap[g]? = some (.cells C 33 (0, 0)) ∧ q * 65 ≤ C.size ∧ wr.heap.size ≤ g := by
        rcases hV.2 with ⟨h, _⟩ | ⟨g', cap, cur, h, h1, h2, h3, h4, h5, h6⟩
        · cases h
        · simp only [Value.slice.injEq, Option.some.injEq, Addr.mk.injEq, and_true, true_and] at h
          obtain ⟨rfl, rfl⟩ := h
          exact ⟨cur, h2, by rw [h5]; exact Nat.mul_le_mul_right _ h3, h1⟩
      have HG := Lib.hid (show ∃ C, w2.heap[g]? = some (.cells C 33 (0, 0)) ∧ q * 65 ≤ C.size from ⟨C, hg, hC⟩)
      have HD2 := Lib.hid (HDr.out.upd0 hu)
      have HU2 := Lib.hid (HUr.out.trans' hu)
      have HGE := Lib.hid hge
      clear hV hsh hu hg hC hge
      go_wp2_with fail
      obtain ⟨wo, rfl⟩ : ∃ wo : World, wo = wr := ⟨_, rfl⟩
      go_loopw [6] (fun i wr => ∃ p : Nat, i = .int .i64 p ∧ p ≤ q ∧ (∃ C, wr.heap[g]? = some (.cells C 33 (0, 0)) ∧ q * 65 ≤ C.size) ∧ Upd (fun j => j = g) w2 wr) (fun i _ => q - (intOf i).toNat)
      case atStart => exact ⟨0, rfl, Nat.zero_le _, HG.out, Upd.refl _ _⟩
      case round =>
        obtain ⟨p, rfl, hp, ⟨C, hg, hC⟩, hu⟩ := hrel
        have HUp := Lib.hid hu
        have HGp := Lib.hid hg
        have HCp := Lib.hid hC
        by_cases hlt : p < q
        · have d1 : (p : Int) < (q : Int) := by omega
          have d0 : (0 : Int) ≤ (p : Int) := by omega
          have cx : ∃ x, wr.cell? ⟨g, p * 65, none⟩ = some x := by
            rw [cell_of_row wr g _ _ 33 (0, 0) hg, Array.getElem?_eq_getElem (by omega)]
            exact ⟨_, rfl⟩
          obtain ⟨x, cx⟩ := cx
          have fx := frozen_of_row wr g (p * 65) _ 33 hg
          have d3 : p + 1 ≤ q := by omega
          clear hu hg hC hlt
          go_wp2_with fail
          go_roundw
          case rel => exact ⟨p + 1, by go_num, d3, ⟨_, heap_setCell_same wr g (p * 65) _ 33 _ HGp.out, by rw [Array.size_setIfInBounds]; exact HCp.out⟩, HUp.out.setCell (p := ⟨g, p * 65, none⟩) (fun _ => rfl) _⟩
          case measure => simp [intOf]; omega
        · have hpq : p = q := by omega
          subst hpq
          have hgs : ∀ j, S1 j → j ≠ g := fun j hj h => by have := (HDr.out.lt j hj); have := HGE.out; omega
          have HDp := Lib.hid (HD2.out.upd HUp.out hgs)
          have HUq := Lib.hid (HU2.out.trans HUp.out (fun j hj h => by have := HGE.out; have := HUr.out.size; omega))
          clear hu hg hC hlt hp hgs
          go_wp2_with fail
          refine (writes_dsk k (kst p) S1 wr HDp.out (by rw [kst_len]; omega)).mono ?_
          rintro e w4 ⟨V, rfl, hV, hu, hsh⟩
          obtain ⟨g2, c2, rfl⟩ : ∃ g c, V = .slice (some ⟨g, 0, none⟩) p c := by
            rw [kst_len] at hV hsh
            rcases hsh with rfl | h
            · rcases hV.2 with ⟨_, h⟩ | ⟨_, _, _, h, _⟩
              · omega
              · cases h
            · exact h
          have HV := Lib.hid hV
          have HU4 := Lib.hid (HUq.out.trans' hu)
          have HAT := Lib.hid (show ∀ x ∈ (kst p).ws, x.1 < 255 ∧ x.2.length = 64 by
            obtain ⟨_, _, _, _, _, h, _⟩ := HDp.out
            exact h.at_)
          clear hV hu hsh
          go_wp2_with fail
          obtain ⟨wq, rfl⟩ : ∃ wq : World, wq = wr := ⟨_, rfl⟩
          go_loopw [8] (fun i wr => ∃ t : Nat, i = .int .i64 t ∧ t ≤ p ∧ wr = w4) (fun i _ => p - (intOf i).toNat)
          case atStart => exact ⟨0, rfl, Nat.zero_le _, rfl⟩
          case round =>
            obtain ⟨t, rfl, ht, rfl⟩ := hrel
            by_cases hlt : t < p
            · have e1 : (t : Int) < (p : Int) := by omega
              have e0 : (0 : Int) ≤ (t : Int) := by omega
              have ct : wr.cell? ⟨g2, t * 65, none⟩ = some (.int .i64 (t : Int)) := by
                obtain ⟨b, hb⟩ := kst_at p t hlt
                have hl : t < (kst p).ws.length := by rw [kst_len]; exact hlt
                have hv := ownsRow_base (base' := 0) HV.out (fun _ _ => Nat.zero_le _)
                have := ws_at (c := c2) (g := g2) (by have e := kst_len p; rw [e] at hv ⊢; exact hv) HAT.out t hl
                have hx : (kst p).ws[t] = (t, b) := by
                  rw [List.getElem?_eq_getElem hl] at hb; exact Option.some.inj hb
                rw [hx] at this
                exact this 0 _ rfl
              have e3 : t + 1 ≤ p := by omega
              clear hlt
              go_wp2_with fail
              go_roundw
              case rel => exact ⟨t + 1, by go_num, e3, trivial⟩
              case measure => simp [intOf]; omega
            · have htp : t = p := by omega
              subst htp
              clear hlt ht
              go_wp2_with fail
              refine (known_any _).mono ?_
              rintro e w5 ⟨rfl, hu⟩
              have HF := Lib.hid (HU4.out.trans' hu)
              clear hu
              go_wp2
              go_ret
              exact ⟨rfl, HF.out⟩
end Go.Proofs.Ytckgcfkahffibaa
