import Derived.Test.YtckgcfkahffibaaAsk
namespace Go.Proofs.Ytckgcfkahffibaa
open Go.RowKit
set_option linter.unusedVariables false
set_option linter.unusedSimpArgs false
theorem wpList_load_midG {P : Program} {ops : Array Oper} {rest : List Oper} {op : Oper} {a : Act} {w : World} {Q : Exit → Act → World → Prop} (hw : Region.wanted op (yielded ops a.tmps) = true) (ty : TypeId) (x : Operand) (ho : op.op = .load ty x)
    (b o : Nat) (hx : a.eval x = .pointer (some ⟨b, o, none⟩)) (cs : List Value) (d : TypeDesc) (hc : w.rangeAt b o cs)
    (hu : P.underlying ty = some d) (hd : d.isRow = true) (hi : (P.info? ty).map (·.size) = some cs.length)
    (h : wpList P ops Q rest (a.put op.dst (.agg cs.toArray)) w) : wpList P ops Q (op :: rest) a w :=
  wpList_step fun K hK => by rw [if_pos hw]; exact wp_load_mid ty x ho b o hx cs d hc hu hd hi (hK _ _ h)
/-- Two disks beside each other. -/
structure Two (w wx : World) (k k2 n : Nat) (wl : List (Nat × List UInt8)) (S T : Nat → Prop) : Prop where
  at_ : ∀ x ∈ wl, x.1 < 255 ∧ x.2.length = 64
  d : Dsk wx k (plain wl) S
  c : Dsk wx k2 (plain (wl.take n)) T
  fs : ∀ j, S j → w.heap.size ≤ j
  ft : ∀ j, T j → w.heap.size ≤ j
  ap : ∀ j, S j → ¬ T j
  u : Upd (fun _ => False) w wx
theorem Two.q {w wx wy : World} {k k2 n : Nat} {wl : List (Nat × List UInt8)} {S T : Nat → Prop} (h : Two w wx k k2 n wl S T) (hu : Upd (fun _ => False) wx wy) : Two w wy k k2 n wl S T :=
  ⟨h.at_, h.d.upd0 hu, h.c.upd0 hu, h.fs, h.ft, h.ap, h.u.trans' hu⟩
/-- What is there when the writes are done. -/
def CutsP (w : World) (k k2 n m : Nat) (s : Value) (wx : World) : Prop :=
  ∃ (q : Nat) (wl : List (Nat × List UInt8)) (S T : Nat → Prop), s = .int .i64 q ∧ q ≤ 40 ∧ wl.length = q ∧ Two w wx k k2 n wl S T

set_option maxHeartbeats 2000000 in
set_option maxRecDepth 100000 in
theorem cuts_any (v : Value) (L : List (Int × UInt8)) (n0 : Int) (w : World) (hL : IB w 4 1 3 v L) (h1 : -9223372036854775808 ≤ n0) (h2 : n0 ≤ 9223372036854775807) : Calls Try.prog 4 #[v, .int .i64 n0] w fun e w' => e = .returned (.bool true) ∧ Upd (fun _ => False) w w' := by
  have hL0 := hL
  obtain ⟨ao, cap, rfl, hc⟩ := hL
  have HIB := Lib.hid hL0
  have HC := Lib.hid hc
  clear hL0 hc
  go_enter Try.func4, Try.ntmps4
  go_wp2_with fail
  refine (new_dsk w).mono ?_
  rintro e w1 ⟨k, S, rfl, hd, hs, hu⟩
  have HD := Lib.hid hd
  have HS := Lib.hid hs
  have HU := Lib.hid hu
  clear hd hs hu
  go_wp2_with fail
  refine (new_dsk w1).mono ?_
  rintro e w2 ⟨k2, T, rfl, hd, hs, hu⟩
  have HTW := Lib.hid (fun n => show Two w w2 k k2 n [] S T from ⟨fun x hx => by simp at hx, HD.out.upd0 hu, by rw [List.take_nil]; exact hd, HS.out, fun j hj => Nat.le_trans HU.out.size (hs j hj), fun j hj ht => by have := HD.out.lt j hj; have := hs j ht; omega, HU.out.trans' hu⟩)
  clear hd hs hu
  go_wp2_with fail
  refine (within_any n0 40 h1 h2 (by omega) (by omega) w2).mono ?_
  rintro e w2 ⟨⟨n, hn, rfl⟩, rfl⟩
  clear h1 h2
  go_upto_block 0 with fail
  go_cut [7] (fun s wx => CutsP w k k2 n L.length s wx)
  case first =>
    go_wp2_with fail
    go_loopw [7, 8] (fun t i wr => ∃ (q : Nat) (wl : List (Nat × List UInt8)) (S T : Nat → Prop), t = .int .i64 q ∧ i = .int .i64 q ∧ q ≤ 40 ∧ q ≤ L.length ∧ wl.length = q ∧ Two w wr k k2 n wl S T) (fun _ i _ => 40 - (intOf i).toNat)
    case atStart => exact ⟨0, [], S, T, rfl, rfl, by omega, by omega, rfl, HTW.out n⟩
    case round =>
      obtain ⟨q, wl, S1, T1, rfl, rfl, hq, hqL, hwl, htw⟩ := hrel
      have HWL := Lib.hid hwl
      have HTr := Lib.hid htw
      clear hwl htw
      by_cases hlt : q < L.length
      · by_cases h40 : q < 40
        · obtain ⟨b, off, rfl, hcell⟩ : ∃ b off, ao = some ⟨b, off, none⟩ ∧ ∀ (i : Nat) (h : i < L.length), w.cell? ⟨b, off + i * 4 + 1, none⟩ = some (.int .i64 (L[i]).1) ∧ w.cell? ⟨b, off + i * 4 + 3, none⟩ = some (byteV (L[i]).2) ∧ I64 (L[i]).1 := by
            rcases HC.out with h | h
            · rw [h] at hlt; simp at hlt
            · exact h
          obtain ⟨g1, g3, g64⟩ := hcell q hlt
          generalize L[q] = x at *
          obtain ⟨xa, xb⟩ := x
          simp only at g1 g3 g64
          have HG3 := Lib.hid g3
          have c1 := HTr.out.u.cell_some g1 (fun h => h)
          have d1 : decide (q < L.length) = true := by simp; omega
          have d2 : decide ((q : Int) < 40) = true := by simp; omega
          have d3 : (q : Int) < (L.length : Int) := by omega
          have d4 : q + 1 ≤ 40 := by omega
          have d5 : q + 1 ≤ L.length := by omega
          clear hcell g1 g3 hlt h40 hq hqL
          go_wp2_with fail
          refine (within_any xa 254 g64.1 g64.2 (by omega) (by omega) wr).mono ?_
          rintro e w3 ⟨⟨r, hr, rfl⟩, rfl⟩
          have c3 : w3.cell? ⟨b, off + q * 4 + 3, none⟩ = some (.int .u8 xb.toNat) := HTr.out.u.cell_some HG3.out (fun h => h)
          clear c1
          go_wp2_with fail
          refine (block_one xb w3).mono ?_
          rintro e w4 ⟨rfl, hu⟩
          have HT4 := Lib.hid (HTr.out.q hu)
          clear hu c3
          go_wp2_with fail
          refine (write_dsk k _ S1 (r : Int) (one xb) w4 HT4.out.d (one_len xb) (by show wl.length ≤ _; have := HWL.out; omega)).mono ?_
          rw [plain_wr wl r (by omega)]
          rintro e w5 ⟨rfl, S5, hd, hA, hs⟩
          have hS5 : ∀ j, S5 j → w.heap.size ≤ j := fun j hj => (hs j hj).elim (fun h => HT4.out.fs j h) (fun h => Nat.le_trans HT4.out.u.size h)
          have hap : ∀ j, S5 j → ¬ T1 j := fun j hj ht => (hs j hj).elim (fun h => HT4.out.ap j h ht) (fun h => by have := HT4.out.c.lt j ht; omega)
          have hU5 : Upd (fun _ => False) w w5 := HT4.out.u.trans hA (fun j hj h => by have := HT4.out.fs j h; omega)
          have hc5 : Dsk w5 k2 (plain (wl.take n)) T1 := HT4.out.c.upd hA (fun j hj h => HT4.out.ap j h hj)
          have hat : ∀ x ∈ wl ++ [(r, one xb)], x.1 < 255 ∧ x.2.length = 64 := fun x hx => by
            rcases List.mem_append.1 hx with h | h
            · exact HT4.out.at_ x h
            · rw [List.mem_singleton.1 h]; exact ⟨by show r < 255; omega, one_len xb⟩
          have HD5 := Lib.hid hd
          have HS5 := Lib.hid hS5
          have HAP := Lib.hid hap
          have HU5 := Lib.hid hU5
          have HC5 := Lib.hid hc5
          have HAT := Lib.hid hat
          have HWL' := Lib.hid (show (wl ++ [(r, one xb)]).length = q + 1 by rw [List.length_append, HWL.out]; rfl)
          clear hd hA hs hS5 hap hU5 hc5 hat
          by_cases hqn : q < n
          · have e1 : (q : Int) < (n : Int) := by omega
            have c3 : w5.cell? ⟨b, off + q * 4 + 3, none⟩ = some (.int .u8 xb.toNat) := HU5.out.cell_some HG3.out (fun h => h)
            have HTK := Lib.hid (show wl.take n = wl ∧ (wl ++ [(r, one xb)]).take n = wl ++ [(r, one xb)] from ⟨List.take_of_length_le (by rw [HWL.out]; omega), List.take_of_length_le (by rw [HWL'.out]; omega)⟩)
            clear hqn
            go_wp2_with fail
            refine (block_one xb w5).mono ?_
            rintro e w6 ⟨rfl, hu⟩
            have HD6 := Lib.hid (HD5.out.upd0 hu)
            have HC6 := Lib.hid (HC5.out.upd0 hu)
            have HU6 := Lib.hid (HU5.out.trans' hu)
            clear hu c3
            go_wp2_with fail
            refine (write_dsk k2 _ T1 (r : Int) (one xb) w6 HC6.out (one_len xb) (by show (wl.take n).length ≤ _; rw [HTK.out.1, HWL.out]; omega)).mono ?_
            rw [HTK.out.1, plain_wr wl r (by omega)]
            rintro e w7 ⟨rfl, T7, hd, hA, hs⟩
            have hfin : Two w w7 k k2 n (wl ++ [(r, one xb)]) S5 T7 := ⟨HAT.out, HD6.out.upd hA (fun j hj h => HAP.out j hj h), by rw [HTK.out.2]; exact hd, HS5.out,
              fun j hj => (hs j hj).elim (fun h => HTr.out.ft j h) (fun h => Nat.le_trans HU6.out.size h),
              fun j hj ht => (hs j ht).elim (fun h => HAP.out j hj h) (fun h => by have := HD6.out.lt j hj; omega),
              HU6.out.trans hA (fun j hj h => by have := HTr.out.ft j h; omega)⟩
            have HF := Lib.hid hfin
            clear hd hA hs hfin
            go_wp2_with fail
            go_roundw
            case rel => exact ⟨q + 1, _, S5, T7, by go_num, by go_num, d4, d5, HWL'.out, HF.out⟩
            case measure => simp [intOf]; omega
          · have e1 : ¬ ((q : Int) < (n : Int)) := by omega
            have hfin : Two w w5 k k2 n (wl ++ [(r, one xb)]) S5 T1 := ⟨HAT.out, HD5.out, by rw [List.take_append_of_le_length (by rw [HWL.out]; omega)]; exact HC5.out, HS5.out, HTr.out.ft, HAP.out, HU5.out⟩
            have HF := Lib.hid hfin
            clear hfin hqn
            go_wp2_with fail
            go_roundw
            case rel => exact ⟨q + 1, _, S5, T1, by go_num, by go_num, d4, d5, HWL'.out, HF.out⟩
            case measure => simp [intOf]; omega
        · have d1 : decide (q < L.length) = true := by simp; omega
          have d2 : decide ((q : Int) < 40) = false := by simp; omega
          clear hlt h40
          go_wp2_with fail
          go_meet
          exact ⟨q, wl, S1, T1, rfl, hq, HWL.out, HTr.out⟩
      · have d1 : decide (q < L.length) = false := by simp; omega
        clear hlt
        go_wp2_with fail
        go_meet
        exact ⟨q, wl, S1, T1, rfl, hq, HWL.out, HTr.out⟩
  case rest =>
  obtain ⟨q, wl, S1, T1, rfl, hq, hwl, htw⟩ := hcut
  have HWL := Lib.hid hwl
  have HT := Lib.hid htw
  have HQ := Lib.hid hq
  have HN := Lib.hid hn
  have hbl : ∀ i, (DS.new.bl i).length = 64 := fun i => one_len 0
  have HL1 := Lib.hid (laid_len (f := DS.new.bl) (l := wl.take n) hbl (fun x hx => (htw.at_ x (List.mem_of_mem_take hx)).2))
  have HL2 := Lib.hid (laid_len (f := DS.new.bl) (l := wl) hbl (fun x hx => (htw.at_ x hx).2))
  clear hwl htw hq hn hbl
  go_wp2_with fail
  refine (cut_dsk k _ S1 n wc HT.out.d (by show wl.length ≤ _; have := HWL.out; have := HQ.out; omega) (by have := HN.out; omega)).mono ?_
  rw [plain_cut]
  rintro e w3 ⟨k3, S3, rfl, hx, hs, hu⟩
  have HT3 := Lib.hid (HT.out.q hu)
  have HX3 := Lib.hid hx
  clear hx hs hu
  go_wp2_with fail
  refine (cut_dsk k _ S1 q w3 HT3.out.d (by show wl.length ≤ _; have := HWL.out; have := HQ.out; omega) (by have := HQ.out; omega)).mono ?_
  rw [plain_cut, List.take_of_length_le (show wl.length ≤ q by have := HWL.out; omega)]
  rintro e w4 ⟨k4, S4, rfl, hy, hs, hu⟩
  have HT4 := Lib.hid (HT3.out.q hu)
  have HX4 := Lib.hid (HX3.out.upd0 hu)
  have HY4 := Lib.hid hy
  clear hy hs hu
  go_wp2_with fail
  go_loopw [12] (fun i wr => ∃ p : Nat, i = .int .i64 p ∧ p ≤ 255 ∧ Two w wr k k2 n wl S1 T1 ∧ Dsk wr k3 (DS.of (laid DS.new.bl (wl.take n))) S3 ∧ Dsk wr k4 (DS.of (laid DS.new.bl wl)) S4) (fun i _ => 255 - (intOf i).toNat)
  case atStart => exact ⟨0, rfl, by omega, HT4.out, HX4.out, HY4.out⟩
  case round =>
    obtain ⟨p, rfl, hp, ht, hx, hy⟩ := hrel
    have HTwr := Lib.hid ht
    have HXwr := Lib.hid hx
    have HYwr := Lib.hid hy
    clear ht hx hy
    by_cases hlt : p < 255
    · have d1 : decide ((p : Int) < 255) = true := by simp; omega
      have r1 := of_rd (laid DS.new.bl (wl.take n)) p hlt
      have r2 := plain_rd (wl.take n) p hlt
      have r3 := of_rd (laid DS.new.bl wl) p hlt
      have r4 := plain_rd wl p hlt
      obtain ⟨A, hA⟩ : ∃ A, A = laid DS.new.bl (wl.take n) p := ⟨_, rfl⟩
      obtain ⟨E, hE⟩ : ∃ E, E = laid DS.new.bl wl p := ⟨_, rfl⟩
      have hAl : A.length = 64 := by rw [hA]; exact HL1.out p
      have hEl : E.length = 64 := by rw [hE]; exact HL2.out p
      rw [← hA] at r1 r2
      rw [← hE] at r3 r4
      have R1 := Lib.hid r1
      have R2 := Lib.hid r2
      have R3 := Lib.hid r3
      have R4 := Lib.hid r4
      have HAL := Lib.hid hAl
      have HEL := Lib.hid hEl
      have d4 : p + 1 ≤ 255 := by omega
      have qA := neq_block A A hAl hAl
      have qE := neq_block E E hEl hEl
      simp only [decide_true, Bool.not_true] at qA qE
      clear r1 r2 r3 r4 hA hE hAl hEl hlt hp
      go_wp2_with fail
      refine (read_dsk k3 _ S3 p wr HXwr.out).mono ?_
      rw [R1.out.1, R1.out.2]
      rintro e u1_ ⟨rfl, hu⟩
      have HTu1_ := Lib.hid (HTwr.out.q hu)
      have HXu1_ := Lib.hid (HXwr.out.upd0 hu)
      have HYu1_ := Lib.hid (HYwr.out.upd0 hu)
      clear hu
      go_wp2_with (refine wpList_var28 (by rfl) (by rfl) 13 (.tmp 90) (by rfl) (by rfl) (by rfl) A HAL.out (by rfl) (by rfl) ?c1)
      case c1 =>
      intro v1 hu hr
      have HTv1 := Lib.hid (HTu1_.out.q hu)
      have HXv1 := Lib.hid (HXu1_.out.upd0 hu)
      have HYv1 := Lib.hid (HYu1_.out.upd0 hu)
      generalize u1_.heap.size = g1 at *
      have HR1v1 := Lib.hid hr
      clear hu hr
      go_wp2_with fail
      refine (read_dsk k2 _ T1 p v1 HTv1.out.c).mono ?_
      rw [R2.out.1, R2.out.2]
      rintro e u2_ ⟨rfl, hu⟩
      have HTu2_ := Lib.hid (HTv1.out.q hu)
      have HXu2_ := Lib.hid (HXv1.out.upd0 hu)
      have HYu2_ := Lib.hid (HYv1.out.upd0 hu)
      have HR1u2_ := Lib.hid (range_upd HR1v1.out hu (fun h => h))
      clear hu
      go_wp2_with (refine wpList_var28 (by rfl) (by rfl) 15 (.tmp 96) (by rfl) (by rfl) (by rfl) A HAL.out (by rfl) (by rfl) ?c1)
      case c1 =>
      intro v2 hu hr
      have HTv2 := Lib.hid (HTu2_.out.q hu)
      have HXv2 := Lib.hid (HXu2_.out.upd0 hu)
      have HYv2 := Lib.hid (HYu2_.out.upd0 hu)
      have HR1v2 := Lib.hid (range_upd HR1u2_.out hu (fun h => h))
      generalize u2_.heap.size = g2 at *
      have HR2v2 := Lib.hid hr
      clear hu hr
      go_wp2_with fail
      refine (read_dsk k4 _ S4 p v2 HYv2.out).mono ?_
      rw [R3.out.1, R3.out.2]
      rintro e u3_ ⟨rfl, hu⟩
      have HTu3_ := Lib.hid (HTv2.out.q hu)
      have HXu3_ := Lib.hid (HXv2.out.upd0 hu)
      have HYu3_ := Lib.hid (HYv2.out.upd0 hu)
      have HR1u3_ := Lib.hid (range_upd HR1v2.out hu (fun h => h))
      have HR2u3_ := Lib.hid (range_upd HR2v2.out hu (fun h => h))
      clear hu
      go_wp2_with (refine wpList_var28 (by rfl) (by rfl) 17 (.tmp 102) (by rfl) (by rfl) (by rfl) E HEL.out (by rfl) (by rfl) ?c1)
      case c1 =>
      intro v3 hu hr
      have HTv3 := Lib.hid (HTu3_.out.q hu)
      have HXv3 := Lib.hid (HXu3_.out.upd0 hu)
      have HYv3 := Lib.hid (HYu3_.out.upd0 hu)
      have HR1v3 := Lib.hid (range_upd HR1u3_.out hu (fun h => h))
      have HR2v3 := Lib.hid (range_upd HR2u3_.out hu (fun h => h))
      generalize u3_.heap.size = g3 at *
      have HR3v3 := Lib.hid hr
      clear hu hr
      go_wp2_with fail
      refine (read_dsk k _ S1 p v3 HTv3.out.d).mono ?_
      rw [R4.out.1, R4.out.2]
      rintro e u4_ ⟨rfl, hu⟩
      have HTu4_ := Lib.hid (HTv3.out.q hu)
      have HXu4_ := Lib.hid (HXv3.out.upd0 hu)
      have HYu4_ := Lib.hid (HYv3.out.upd0 hu)
      have HR1u4_ := Lib.hid (range_upd HR1v3.out hu (fun h => h))
      have HR2u4_ := Lib.hid (range_upd HR2v3.out hu (fun h => h))
      have HR3u4_ := Lib.hid (range_upd HR3v3.out hu (fun h => h))
      clear hu
      go_wp2_with (refine wpList_var28 (by rfl) (by rfl) 19 (.tmp 108) (by rfl) (by rfl) (by rfl) E HEL.out (by rfl) (by rfl) ?c1)
      case c1 =>
      intro v4 hu hr
      have HTv4 := Lib.hid (HTu4_.out.q hu)
      have HXv4 := Lib.hid (HXu4_.out.upd0 hu)
      have HYv4 := Lib.hid (HYu4_.out.upd0 hu)
      have HR1v4 := Lib.hid (range_upd HR1u4_.out hu (fun h => h))
      have HR2v4 := Lib.hid (range_upd HR2u4_.out hu (fun h => h))
      have HR3v4 := Lib.hid (range_upd HR3u4_.out hu (fun h => h))
      generalize u4_.heap.size = g4 at *
      have HR4v4 := Lib.hid hr
      clear hu hr
      have HSZA := Lib.hid (show (Try.prog.info? 28).map (·.size) = some (bytesV A).length by rw [bytesV_length, HAL.out]; exact size28)
      have HSZE := Lib.hid (show (Try.prog.info? 28).map (·.size) = some (bytesV E).length by rw [bytesV_length, HEL.out]; exact size28)
      go_wp2_with (first | (refine wpList_load_midG (by rfl) 28 (.tmp 13) rfl g1 0 (by rfl) (bytesV A) _ HR1v4.out Try.underlying28 rfl HSZA.out ?_) | (refine wpList_load_midG (by rfl) 28 (.tmp 15) rfl g2 0 (by rfl) (bytesV A) _ HR2v4.out Try.underlying28 rfl HSZA.out ?_) | (refine wpList_load_midG (by rfl) 28 (.tmp 17) rfl g3 0 (by rfl) (bytesV E) _ HR3v4.out Try.underlying28 rfl HSZE.out ?_) | (refine wpList_load_midG (by rfl) 28 (.tmp 19) rfl g4 0 (by rfl) (bytesV E) _ HR4v4.out Try.underlying28 rfl HSZE.out ?_))
      go_roundw
      case rel => exact ⟨p + 1, by go_num, d4, HTv4.out, HXv4.out, HYv4.out⟩
      case measure => simp [intOf]; omega
    · have hp : p = 255 := by omega
      subst hp
      clear hlt
      go_wp2_with fail
      refine (writes_len k3 _ S3 0 wr HXwr.out rfl (by omega)).mono ?_
      rintro e w5 ⟨⟨a1, c1, rfl⟩, hu⟩
      have HT5 := Lib.hid (HTwr.out.q hu)
      clear hu
      go_wp2_with fail
      refine (writes_len k _ S1 q w5 HT5.out.d HWL.out (by have := HQ.out; omega)).mono ?_
      rintro e w6 ⟨⟨a2, c2, rfl⟩, hu⟩
      have HT6 := Lib.hid (HT5.out.q hu)
      clear hu
      go_wp2_with fail
      refine (known_any w6).mono ?_
      rintro e w7 ⟨rfl, hu⟩
      have HT7 := Lib.hid (HT6.out.q hu)
      clear hu
      go_wp2
      go_ret
      exact ⟨rfl, HT7.out.u⟩
end Go.Proofs.Ytckgcfkahffibaa
