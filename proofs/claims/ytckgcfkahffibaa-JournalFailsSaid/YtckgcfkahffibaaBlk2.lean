import Derived.Test.YtckgcfkahffibaaRecov
namespace Go.Proofs.Ytckgcfkahffibaa
open Go.RowKit
set_option linter.unusedVariables false
set_option linter.unusedSimpArgs false
/-- Law 24's block. -/
def blk2 (b : UInt8) : List UInt8 := (List.range 64).map fun i => b + UInt8.ofNat i
theorem blk2_len (b : UInt8) : (blk2 b).length = 64 := by simp only [blk2, List.length_map, List.length_range]
theorem add_byte (b : UInt8) (k : Nat) : ((b.toNat : Int) + (k : Int)) % 256 = ((b + UInt8.ofNat k).toNat : Int) := by
  rw [UInt8.toNat_add, UInt8.toNat_ofNat']; omega

set_option maxHeartbeats 1000000 in
set_option maxRecDepth 100000 in
theorem blk2_any (b : UInt8) (w : World) :
    Calls Try.prog 29 #[.int .u8 b.toNat] w fun e w' => e = .returned (.agg (bytesV (blk2 b)).toArray) ∧ Upd (fun _ => False) w w' := by
  go_enter Try.func29, Try.ntmps29
  go_wp2_with fail
  generalize hZ : w.alloc (.cells _ 28) = w1
  have hg1 : ∃ Z : Array Value, w1.heap[w.heap.size]? = some (.cells Z 28 (0, 0)) ∧ Z.size = 64 := by rw [← hZ]; exact ⟨_, heap_alloc_new w _, rfl⟩
  have hu1 : Upd (fun _ => False) w w1 := by rw [← hZ]; exact (Upd.refl _ w).alloc _
  have hs1 : w1.heap.size = w.heap.size + 1 := by rw [← hZ]; simp
  have HU1 := Lib.hid hu1
  have HG1 := Lib.hid hg1
  clear hZ hu1 hg1
  go_wp2_with fail
  generalize hZ : w1.alloc (.cells _ 28) = w2
  have hg2 : ∃ Z : Array Value, w2.heap[w.heap.size + 1]? = some (.cells Z 28 (0, 0)) ∧ Z.size = 64 := by rw [← hZ, ← hs1]; exact ⟨_, heap_alloc_new w1 _, rfl⟩
  have hg1 : ∃ Z : Array Value, w2.heap[w.heap.size]? = some (.cells Z 28 (0, 0)) ∧ Z.size = 64 := by
    rw [← hZ]
    obtain ⟨Z, h1, h2⟩ := HG1.out
    exact ⟨Z, by rw [Below.heap_alloc w1 _ _ (by omega)]; exact h1, h2⟩
  have hu2 : Upd (fun _ => False) w w2 := by rw [← hZ]; exact HU1.out.alloc _
  have HU2 := Lib.hid hu2
  have HG1 := Lib.hid hg1
  have HG2 := Lib.hid hg2
  clear hZ hu2 hg2 hg1 hs1 HU1
  go_loopw [4] (fun i wr => ∃ k : Nat, i = .int .i64 k ∧ k ≤ 64 ∧ (∃ Z : Array Value, wr.heap[w.heap.size]? = some (.cells Z 28 (0, 0)) ∧ Z.size = 64) ∧ (∃ Z : Array Value, wr.heap[w.heap.size + 1]? = some (.cells Z 28 (0, 0)) ∧ Z.size = 64 ∧ ∀ j, j < k → Z[j]? = some (byteV (b + UInt8.ofNat j))) ∧ Upd (fun _ => False) w wr) (fun i _ => 64 - (intOf i).toNat)
  case atStart =>
    obtain ⟨Z, h1, h2⟩ := HG2.out
    exact ⟨0, rfl, by omega, HG1.out, ⟨Z, h1, h2, fun j hj => by omega⟩, HU2.out⟩
  case round =>
    obtain ⟨k, rfl, hk, hz1, ⟨Z, hh, hz, hf⟩, hu⟩ := hrel
    have HH := Lib.hid hh
    have HZ1 := Lib.hid hz1
    have HZ := Lib.hid hz
    have HF := Lib.hid hf
    have HUr := Lib.hid hu
    clear hz1 hf hu
    by_cases hlt : k < 64
    · have c0 : ∃ x, wr.cell? ⟨w.heap.size + 1, k, none⟩ = some x := by
        rw [cell_of_row wr _ k _ 28 (0, 0) hh, Array.getElem?_eq_getElem (by omega)]
        exact ⟨_, rfl⟩
      obtain ⟨x, c0⟩ := c0
      have f0 := frozen_of_row wr (w.heap.size + 1) k _ 28 hh
      clear hh hz
      go_wp2
      go_roundw
      case rel =>
        obtain ⟨Z1, h1, h2⟩ := HZ1.out
        rw [add_byte b k]
        refine ⟨k + 1, by go_num, by omega, ⟨Z1, ?_, h2⟩, ⟨_, heap_setCell_same wr _ k _ 28 _ HH.out, ?_, ?_⟩, ?_⟩
        · rw [Below.heap_setCell wr _ _ _ (by simp)]; exact h1
        · exact (fill_step HZ.out hlt (f := fun j => byteV (b + UInt8.ofNat j)) HF.out).1
        · exact (fill_step HZ.out hlt (f := fun j => byteV (b + UInt8.ofNat j)) HF.out).2
        · exact HUr.out.setCell (p := ⟨w.heap.size + 1, k, none⟩) (fun h => by simp at h; omega) _
      case measure => simp [intOf]; omega
    · have hk : k = 64 := by omega
      subst hk
      have hl : Z.toList = bytesV (blk2 b) := by
        rw [fill_all HZ.out (f := fun j => byteV (b + UInt8.ofNat j)) HF.out]; simp only [bytesV, blk2, List.map_map]; rfl
      have hr1 : wr.rangeAt (w.heap.size + 1) 0 (bytesV (blk2 b)) := by rw [← hl]; exact range_row HH.out
      have ht1 : wr.there w.heap.size 0 64 := by
        obtain ⟨Z1, h1, h2⟩ := HZ1.out
        exact there_row h1 (by omega)
      have hlen : (bytesV (blk2 b)).length = 64 := by rw [bytesV_length, blk2_len]
      have HR1 := Lib.hid hr1
      have HT1 := Lib.hid ht1
      generalize hB : bytesV (blk2 b) = B at *
      have hone : ∀ v ∈ B, v.oneCell' = true := by rw [← hB]; exact bytesV_one _
      have hst := run_store_range (P := Try.prog) (by rw [hlen]; exact ht1) hone
      have HB := Lib.hid hB
      clear hh hz hk hr1 ht1 hl hB
      go_wp2_with (refine wpList_load_mid rfl 28 (.tmp 3) rfl (w.heap.size + 1) 0 (by rfl) B _ HR1.out Try.underlying28 rfl (by rw [hlen]; exact size28) ?c1)
      refine bodyPost_ret (results_cell_mid (p := 2) (ty := 28) rfl _ _ w.heap.size B _ rfl ?_ Try.underlying28 rfl (by rw [hlen]; exact size28)) rfl ?_
      · exact World.rangeAt_setCells_same _ _ _ _ (by rw [hlen]; exact HT1.out)
      · exact ⟨by rw [HB.out], upd_setCells HUr.out _ _ _ (fun h => by omega)⟩
end Go.Proofs.Ytckgcfkahffibaa
