import Derived.Test.YtbpeoclhabgcgaaKnown
import Derived.Laws.CopyOwn
namespace Go.Proofs.Ytbpeoclhabgcgaa
open Go.RowKit
set_option linter.unusedVariables false
set_option linter.unusedSimpArgs false

theorem Bytes.shape {w : World} {v : Value} {l : List UInt8} (h : Bytes w v l) : ∃ ao cap, v = .slice ao l.length cap ∧ (0 < l.length → ∃ b off, ao = some ⟨b, off, none⟩ ∧ ∀ i (hi : i < l.length), w.cell? ⟨b, off + i, none⟩ = some (byteV l[i])) := by
  obtain ⟨ao, cap, rfl, _, _, h3⟩ := h
  refine ⟨ao, cap, rfl, fun hp => ?_⟩
  rcases h3 with rfl | h
  · simp at hp
  · exact h

set_option maxHeartbeats 1000000 in
set_option maxRecDepth 100000 in
theorem same_eq (u v : Value) (l : List UInt8) (w : World) (hu : Bytes w u l) (hv : Bytes w v l) (hl : l.length ≤ 140737488355328) :
    Calls Try.prog 53 #[u, v] w fun e w' => e = .returned (.bool true) ∧ ∃ n, w' = w.drewN n := by
  obtain ⟨ao, cap, rfl, h1⟩ := hu.shape
  obtain ⟨ao', cap', rfl, h2⟩ := hv.shape
  have H1 := Lib.hid h1
  have H2 := Lib.hid h2
  clear h1 h2 hu hv
  go_enter Try.func53, Try.ntmps53
  go_wp2
  go_loopw [5] (fun i wr => ∃ k : Nat, i = .int .i64 k ∧ k ≤ l.length ∧ ∃ n, wr = w.drewN n) (fun i _ => l.length - (intOf i).toNat)
  case atStart => exact ⟨0, rfl, Nat.zero_le _, 0, rfl⟩
  case round =>
    obtain ⟨k, rfl, hk, n, rfl⟩ := hrel
    by_cases hlt : k < l.length
    · obtain ⟨b, off, rfl, c1⟩ := H1.out (by omega)
      obtain ⟨b', off', rfl, c2⟩ := H2.out (by omega)
      have d1 : w.cell? ⟨b, off + k, none⟩ = some (.int .u8 (l[k].toNat : Int)) := c1 k hlt
      have d2 : w.cell? ⟨b', off' + k, none⟩ = some (.int .u8 (l[k].toNat : Int)) := c2 k hlt
      generalize (l[k].toNat : Int) = c at *
      have i0 : (0 : Int) ≤ (k : Int) := by omega
      have i1 : (k : Int) < (l.length : Int) := by omega
      clear c1 c2
      go_wp2
      go_quiet (fail)
      go_wp2
      go_roundw
      case rel => exact ⟨k + 1, by go_num, by omega, _, rfl⟩
      case measure => simp [intOf]; omega
    · go_wp2
      go_ret
      exact ⟨rfl, _, rfl⟩

/-- What Roomy has filled, k places in. -/
def filled (l : List UInt8) (m : Value) (cur : List Value) (k : Nat) : List Value := bytesV l ++ (List.replicate (k - l.length) m ++ cur.drop k)
theorem filled_length (l : List UInt8) (m : Value) (cur : List Value) (k : Nat) (h1 : l.length ≤ k) (h2 : k ≤ cur.length) : (filled l m cur k).length = cur.length := by
  simp [filled, bytesV]; omega
theorem filled_set (l : List UInt8) (m : Value) (cur : List Value) (k : Nat) (h1 : l.length ≤ k) (h2 : k < cur.length) : (filled l m cur k).set k m = filled l m cur (k + 1) := by
  unfold filled
  have e1 : (bytesV l).length = l.length := bytesV_length l
  rw [List.set_append_right _ _ (by omega), List.set_append_right _ _ (by simp; omega), List.drop_eq_getElem_cons h2]
  have e2 : k - (bytesV l).length - (List.replicate (k - l.length) m).length = 0 := by simp; omega
  rw [e2, List.set_cons_zero, show k + 1 - l.length = k - l.length + 1 by omega, List.replicate_succ']
  simp

def RoomyP (l : List UInt8) (m : UInt8) (w : World) (e : Ending) (w' : World) : Prop :=
  ∃ g, e = .returned (.slice (some ⟨g, 0, none⟩) (l.length + 80) (l.length + 80)) ∧ w.heap.size ≤ g ∧
    w'.ownsRow w.heap.size 5 1 (.slice (some ⟨g, 0, none⟩) (l.length + 80) (l.length + 80)) (l.length + 80) (bytesV (l ++ List.replicate 80 m)) ∧ Upd (fun _ => False) w w'

set_option maxHeartbeats 1000000 in
set_option maxRecDepth 100000 in
theorem roomy_any (v : Value) (l : List UInt8) (w : World) (hb : Bytes w v l) (hl : l.length ≤ 140737488351232) :
    Calls Try.prog 34 #[v, .int .u8 165] w (RoomyP l 165 w) := by
  obtain ⟨i0, hi, hz0, hz1, hz2⟩ := info_parts Try.info5
  have HB := Lib.hid hb
  obtain ⟨ao, cap, rfl, h1⟩ := hb.shape
  have H1 := Lib.hid h1
  have hmk : ∃ cur : List Value, cur.length = l.length + 80 ∧ (Instr.makeSlice 27 (.int .i64 ((l.length : Int) + 80)) (.int .i64 ((l.length : Int) + 80))).run Try.prog w =
      .ok (.slice (some ⟨w.heap.size, 0, none⟩) (l.length + 80) (l.length + 80)) (w.alloc (.cells cur.toArray 5)) := by
    have hr := run_make (P := Try.prog) w 27 5 i0 (.int .u8 0) Try.underlying27 hi hz0 .i64 .i64 ((l.length : Int) + 80) ((l.length : Int) + 80) (by omega) (Int.le_refl _) (by rw [hz2]; omega) (by omega)
    refine ⟨(madeCells (Value.int .u8 0).cells ((((l.length : Int) + 80)).toNat * i0.size)).toList, ?_, ?_⟩
    · rw [Array.length_toList, size_madeCells, hz1]; omega
    · rw [hr, show ((l.length : Int) + 80).toNat = l.length + 80 by omega]
  obtain ⟨cur, hcl, hmk⟩ := hmk
  have HC := Lib.hid hcl
  clear h1 hb hcl
  go_enter Try.func34, Try.ntmps34
  go_wp2_with (with_reducible refine wpList_copy_splice (o := ⟨some 13, _, _, _, _, _⟩) rfl (.tmp 11) (.tmp 12) 27 27 rfl 5 Try.underlying27 ?c1 (some ⟨w.heap.size, 0, none⟩) ao (l.length + 80) (l.length + 80) l.length cap ?c2 ?c3 w.heap.size 0 cur 5 ?c4 (bytesV l) ?c5 ?c6 ?c7 (bytesV_one l) w.heap.size w ?c8 (Nat.le_refl _) ?c9)
  case c1 => rw [hi]; simp [hz1]
  case c2 => rfl
  case c3 => rfl
  case c4 => exact heap_alloc_new w _
  case c5 => rw [bytesV_length]; exact (Nat.min_eq_left (by omega)).symm
  case c6 =>
    intro hp
    rw [bytesV_length] at hp
    obtain ⟨b, off, rfl, hc⟩ := H1.out hp
    refine ⟨⟨b, off, none⟩, rfl, fun j u hj => ?_⟩
    have hj' : j < l.length := by
      have := (List.getElem?_eq_some_iff.1 hj).1
      rwa [bytesV_length] at this
    rw [bytesV_get l j hj'] at hj
    have hadd : (⟨b, off, none⟩ : Addr).add j = ⟨b, off + j, none⟩ := by unfold Addr.add; split <;> simp_all
    have hcj := hc j hj'
    rw [hadd, World.cell?_alloc_past _ _ _ (World.block_lt_of_cell? _ _ hcj), hcj]
    exact hj
  case c7 => rw [bytesV_length, HC.out]; omega
  case c8 => exact (Below.refl _ _).alloc (Nat.le_refl _) _
  case c9 =>
  intro w1 hs hbl
  have hsp : splice cur 0 (bytesV l) = filled l (.int .u8 165) cur l.length := by
    simp [splice, filled, bytesV_length]
  have HS : Hid (w1.heap[w.heap.size]? = some (.cells (filled l (.int .u8 165) cur l.length).toArray 5 (0, 0))) := by rw [← hsp]; exact hs.out
  have HU : Hid (Upd (fun _ => False) w w1) := (Upd.ofBelow hbl).mono (fun k hk h => by omega)
  clear hs hbl hsp hmk
  go_wp2
  go_loopw [6] (fun i wr => ∃ k : Nat, i = .int .i64 k ∧ l.length ≤ k ∧ k ≤ l.length + 80 ∧ wr.heap[w.heap.size]? = some (.cells (filled l (.int .u8 165) cur k).toArray 5 (0, 0)) ∧ Upd (fun _ => False) w wr) (fun i _ => l.length + 80 - (intOf i).toNat)
  case atStart => exact ⟨l.length, rfl, Nat.le_refl _, by omega, HS.out, HU.out⟩
  case round =>
    obtain ⟨k, rfl, hk1, hk2, hh, hu⟩ := hrel
    have HH := Lib.hid hh
    have HUr := Lib.hid hu
    by_cases hlt : k < l.length + 80
    · have c0 : ∃ x, wr.cell? ⟨w.heap.size, k, none⟩ = some x := by
        rw [cell_of_row wr w.heap.size k _ 5 (0, 0) hh]
        refine ⟨(filled l (.int .u8 165) cur k)[k]'(by rw [filled_length _ _ _ _ hk1 (by rw [HC.out]; omega), HC.out]; exact hlt), ?_⟩
        simp
      obtain ⟨x, c0⟩ := c0
      have f0 := frozen_of_row wr w.heap.size k _ 5 hh
      clear hh hu
      go_wp2
      go_roundw
      case rel =>
        refine ⟨k + 1, by go_num, by omega, by omega, ?_, ?_⟩
        · rw [heap_setCell_same wr _ k _ 5 _ HH.out]
          have := filled_set l (.int .u8 165) cur k hk1 (by rw [HC.out]; exact hlt)
          rw [← this]; simp
        · exact HUr.out.setCell (p := ⟨w.heap.size, k, none⟩) (fun h => by simp at h) _
      case measure => simp [intOf]; omega
    · have hk : k = l.length + 80 := by omega
      have HK := Lib.hid hk
      clear hh hu hk
      go_wp2
      go_ret
      refine ⟨w.heap.size, rfl, Nat.le_refl _, ⟨?_, .inr ⟨w.heap.size, _, _, rfl, Nat.le_refl _, HH.out, Nat.le_refl _, by unfold maxLen; omega, ?_, ?_⟩⟩, HUr.out⟩
      · rw [bytesV_length]; simp
      · have := filled_length l (.int .u8 165) cur k hk1 (by rw [HC.out]; omega)
        simp [this, HC.out]
      · rw [List.toList_toArray, Nat.mul_one, HK.out, filled, List.drop_of_length_le (by rw [HC.out]; omega), show l.length + 80 - l.length = 80 by omega, List.append_nil, bytesV_append]
        rw [List.take_of_length_le (by simp [bytesV_length])]
        congr 1

/-- 'v[:q]' of a slice of bytes. -/
theorem slice_to {v : Value} {l : List UInt8} {w0 : World} (h : Bytes w0 v l) (q : Nat) (hq : q ≤ l.length) :
    ∃ vs, (∀ w, (Instr.sliceAt 27 v none (some (.int .i64 (q : Int))) none).run Try.prog w = .ok vs w) ∧
      (∀ w, Bytes w v l → Bytes w vs (l.take q)) ∧ (∀ k, vs.ownBlock = some k → v.ownBlock = some k) := by
  obtain ⟨ao, cap, rfl, h1, h2, h3⟩ := h
  refine ⟨sliced ao 0 q cap 1, fun w => ?_, fun w hb => ?_, sliced_own⟩
  · have e : Try.prog.elem 27 = 5 := by unfold Program.elem; rw [Try.underlying27]
    have hU : Try.prog.underlying 27 = some (.slice (Try.prog.elem 27)) := by rw [e]; exact Try.underlying27
    rw [run_sliceAt_slice (P := Try.prog) (w := w) (h := hU), run_slice_h (P := Try.prog) (ht := hU) (h0 := by omega) (h2 := by omega)]
    obtain ⟨i0, hi, hz0, hz1, hz2⟩ := info_parts Try.info5
    simp [sizeOf, typeInfo, e, hi, hz1]
  · have := Bytes_sliced hb 0 q (Nat.zero_le _) hq
    simpa using this

set_option maxHeartbeats 1000000 in
set_option maxRecDepth 100000 in
theorem intact_eq (u v : Value) (l : List UInt8) (w : World) (hu : Bytes w u (l ++ List.replicate 80 165)) (hv : Bytes w v l) (hl : l.length ≤ 140737488351232) :
    Calls Try.prog 42 #[u, v, .int .u8 165] w fun e w' => e = .returned (.bool true) ∧ ∃ n, w' = w.drewN n := by
  obtain ⟨vs, s1, s2, s3⟩ := slice_to hu l.length (by simp)
  have HB : Hid (Bytes w vs l) := by have := s2 w hu; rwa [List.take_left] at this
  have HV := Lib.hid hv
  obtain ⟨ao, cap, rfl, h1⟩ := hu.shape
  obtain ⟨ao', cap', rfl, h2⟩ := hv.shape
  have H1 := Lib.hid h1
  have hlen : (l ++ List.replicate 80 (165 : UInt8)).length = l.length + 80 := by simp
  rw [hlen] at s1 ⊢
  have g1 : (((l.length + 80 : Nat) : Int) != (l.length : Int) + 80) = false := by simp
  clear h1 h2 hu hv s2 s3 hlen
  go_enter Try.func42, Try.ntmps42
  go_wp2_with fail
  refine (same_eq vs _ l _ HB.out HV.out (by omega)).mono ?_
  rintro e w1 ⟨rfl, n1, rfl⟩
  go_wp2
  go_loop [7] (fun i => ∃ k : Nat, i = .int .i64 k ∧ l.length ≤ k ∧ k ≤ l.length + 80) (fun i => l.length + 80 - (intOf i).toNat)
  case atStart => exact ⟨l.length, rfl, Nat.le_refl _, by omega⟩
  case round =>
    obtain ⟨k, rfl, hk1, hk2⟩ := hrel
    by_cases hlt : k < l.length + 80
    · obtain ⟨b, off, rfl, c1⟩ := H1.out (by simp)
      have d1 : w.cell? ⟨b, off + k, none⟩ = some (.int .u8 165) := by
        rw [c1 k (by simp; omega), List.getElem_append_right (by omega), List.getElem_replicate]
        rfl
      clear c1
      go_wp2
      go_round
      case rel => exact ⟨k + 1, by go_num, by omega, by omega⟩
      case measure => simp [intOf]; omega
    · go_wp2
      go_ret
      exact ⟨rfl, _, rfl⟩
end Go.Proofs.Ytbpeoclhabgcgaa
