import Derived.Test.YtckgcfkahffibaaRead
namespace Go.Proofs.Ytckgcfkahffibaa
open Go.RowKit
set_option linter.unusedVariables false
set_option linter.unusedSimpArgs false
theorem results_cell_mid {P : Program} {fn : Func} {p : Tmp} {ty : TypeId} (h : fn.results = #[.cell p ty]) (tmps : Array Value) (w : World) (g : Nat) (cs : List Value) (d : TypeDesc)
    (hp : tmps.getD p undef = .pointer (some ⟨g, 0, none⟩)) (hc : w.rangeAt g 0 cs)
    (hu : P.underlying ty = some d) (hd : d.isRow = true) (hi : (P.info? ty).map (·.size) = some cs.length) :
    (results fn tmps).run P w = .ok (.agg cs.toArray) w := by
  have hp' : tmps[p]?.getD undef = .pointer (some ⟨g, 0, none⟩) := by simpa using hp
  simp [results, h, hp', asAddr, run_loadVar_mid w g 0 ty cs d hc hu hd hi]
theorem range_row {w : World} {g : Nat} {C : Array Value} {t : TypeId} (h : w.heap[g]? = some (.cells C t (0, 0))) : w.rangeAt g 0 C.toList := fun j v hv => by
  rw [cell_of_row w g _ C t (0, 0) h]
  simpa using hv
theorem there_row {w : World} {g n : Nat} {C : Array Value} {t : TypeId} (h : w.heap[g]? = some (.cells C t (0, 0))) (hn : n ≤ C.size) : w.there g 0 n := fun j hj => by
  refine ⟨?_, frozen_of_row w g _ C t h⟩
  rw [cell_of_row w g _ C t (0, 0) h, Array.getElem?_eq_getElem (by omega)]; rfl
theorem map_const_range (n : Nat) (v : Value) : (List.range n).map (fun _ => v) = List.replicate n v := by
  apply List.ext_getElem? ; intro i; simp [List.getElem?_replicate, List.getElem?_map]
  by_cases h : i < n <;> simp [h]
theorem run_store_range {P : Program} {w : World} {b o : Nat} {cs : List Value} (ht : w.there b o cs.length) (h1 : ∀ v ∈ cs, v.oneCell' = true) : (storeCells ⟨b, o, none⟩ cs).run P w = .ok () (w.setCells b o cs) := by
  have := run_storeCells_cells (P := P) b o cs 0 w (fun j hj => (ht j hj).1) (fun j hj => (ht j hj).2) h1
  simpa using this
/-- A loop's cells: the first k are v. -/
theorem fill_step {C : Array Value} {n k : Nat} {f : Nat → Value} (hs : C.size = n) (hk : k < n) (h : ∀ j, j < k → C[j]? = some (f j)) :
    (C.set! k (f k)).size = n ∧ ∀ j, j < k + 1 → (C.set! k (f k))[j]? = some (f j) := by
  refine ⟨by simpa using hs, fun j hj => ?_⟩
  by_cases e : j = k
  · subst e; simp [hs, hk]
  · simp only [Array.set!_eq_setIfInBounds, Array.getElem?_setIfInBounds]
    rw [if_neg (by omega)]
    exact h j (by omega)
theorem fill_all {C : Array Value} {n : Nat} {f : Nat → Value} (hs : C.size = n) (h : ∀ j, j < n → C[j]? = some (f j)) : C.toList = (List.range n).map f := by
  apply List.ext_getElem?
  intro j
  by_cases hj : j < n
  · have := h j hj
    simp only [Array.getElem?_toList, this]
    simp [hj]
  · simp [hs, hj]

set_option maxHeartbeats 1000000 in
set_option maxRecDepth 100000 in
theorem block_any (b : UInt8) (w : World) :
    Calls Try.prog 15 #[byteV b] w fun e w' => e = .returned (.agg (bytesV (List.replicate 64 b)).toArray) ∧ Upd (fun _ => False) w w' := by
  have hbv : byteV b = .int .u8 b.toNat := rfl
  rw [hbv]
  go_enter Try.func15, Try.ntmps15
  go_wp2_with fail
  generalize hZ : w.alloc (.cells _ 28) = w1
  have hg1 : ∃ Z : Array Value, w1.heap[w.heap.size]? = some (.cells Z 28 (0, 0)) ∧ Z.size = 64 := by rw [← hZ]; exact ⟨_, heap_alloc_new w _, rfl⟩
  have hu1 : Upd (fun _ => False) w w1 := by rw [← hZ]; exact (Upd.refl _ w).alloc _
  have hs1 : w1.heap.size = w.heap.size + 1 := by rw [← hZ]; simp
  have HU1 := Lib.hid hu1
  have HG1 := Lib.hid hg1
  clear hZ hu1 hg1
  go_wp2_with fail
  generalize hZ : w1.alloc (.cells _ 28) = w2
  have hg2 : ∃ Z : Array Value, w2.heap[w.heap.size + 1]? = some (.cells Z 28 (0, 0)) ∧ Z.size = 64 := by rw [← hZ, ← hs1]; exact ⟨_, heap_alloc_new w1 _, rfl⟩
  have hg1 : ∃ Z : Array Value, w2.heap[w.heap.size]? = some (.cells Z 28 (0, 0)) ∧ Z.size = 64 := by
    rw [← hZ]
    obtain ⟨Z, h1, h2⟩ := HG1.out
    exact ⟨Z, by rw [Below.heap_alloc w1 _ _ (by omega)]; exact h1, h2⟩
  have hu2 : Upd (fun _ => False) w w2 := by rw [← hZ]; exact HU1.out.alloc _
  have HU2 := Lib.hid hu2
  have HG1 := Lib.hid hg1
  have HG2 := Lib.hid hg2
  clear hZ hu2 hg2 hg1 hs1 HU1
  go_loopw [4] (fun i wr => ∃ k : Nat, i = .int .i64 k ∧ k ≤ 64 ∧ (∃ Z : Array Value, wr.heap[w.heap.size]? = some (.cells Z 28 (0, 0)) ∧ Z.size = 64) ∧ (∃ Z : Array Value, wr.heap[w.heap.size + 1]? = some (.cells Z 28 (0, 0)) ∧ Z.size = 64 ∧ ∀ j, j < k → Z[j]? = some (byteV b)) ∧ Upd (fun _ => False) w wr) (fun i _ => 64 - (intOf i).toNat)
  case atStart =>
    obtain ⟨Z, h1, h2⟩ := HG2.out
    exact ⟨0, rfl, by omega, HG1.out, ⟨Z, h1, h2, fun j hj => by omega⟩, HU2.out⟩
  case round =>
    obtain ⟨k, rfl, hk, hz1, ⟨Z, hh, hz, hf⟩, hu⟩ := hrel
    have HH := Lib.hid hh
    have HZ1 := Lib.hid hz1
    have HZ := Lib.hid hz
    have HF := Lib.hid hf
    have HUr := Lib.hid hu
    clear hz1 hf hu
    by_cases hlt : k < 64
    · have c0 : ∃ x, wr.cell? ⟨w.heap.size + 1, k, none⟩ = some x := by
        rw [cell_of_row wr _ k _ 28 (0, 0) hh, Array.getElem?_eq_getElem (by omega)]
        exact ⟨_, rfl⟩
      obtain ⟨x, c0⟩ := c0
      have f0 := frozen_of_row wr (w.heap.size + 1) k _ 28 hh
      clear hh hz
      go_wp2
      go_roundw
      case rel =>
        obtain ⟨Z1, h1, h2⟩ := HZ1.out
        refine ⟨k + 1, by go_num, by omega, ⟨Z1, ?_, h2⟩, ⟨_, heap_setCell_same wr _ k _ 28 _ HH.out, ?_, ?_⟩, ?_⟩
        · rw [Below.heap_setCell wr _ _ _ (by simp)]; exact h1
        · exact (fill_step HZ.out hlt (f := fun _ => byteV b) HF.out).1
        · exact (fill_step HZ.out hlt (f := fun _ => byteV b) HF.out).2
        · exact HUr.out.setCell (p := ⟨w.heap.size + 1, k, none⟩) (fun h => by simp at h; omega) _
      case measure => simp [intOf]; omega
    · have hk : k = 64 := by omega
      subst hk
      have hl : Z.toList = bytesV (List.replicate 64 b) := by
        rw [fill_all HZ.out (f := fun _ => byteV b) HF.out, map_const_range]; exact (List.map_replicate).symm
      have hr1 : wr.rangeAt (w.heap.size + 1) 0 (bytesV (List.replicate 64 b)) := by rw [← hl]; exact range_row HH.out
      have ht1 : wr.there w.heap.size 0 64 := by
        obtain ⟨Z1, h1, h2⟩ := HZ1.out
        exact there_row h1 (by omega)
      have hlen : (bytesV (List.replicate 64 b)).length = 64 := by simp [bytesV]
      have HR1 := Lib.hid hr1
      have HT1 := Lib.hid ht1
      generalize hB : bytesV (List.replicate 64 b) = B at *
      have hone : ∀ v ∈ B, v.oneCell' = true := by rw [← hB]; exact bytesV_one _
      have hst := run_store_range (P := Try.prog) (by rw [hlen]; exact ht1) hone
      have HB := Lib.hid hB
      clear hh hz hk hr1 ht1 hl hB
      go_wp2_with (refine wpList_load_mid rfl 28 (.tmp 3) rfl (w.heap.size + 1) 0 (by rfl) B _ HR1.out Try.underlying28 rfl (by rw [hlen]; exact size28) ?c1)
      refine bodyPost_ret (results_cell_mid (p := 2) (ty := 28) rfl _ _ w.heap.size B _ rfl ?_ Try.underlying28 rfl (by rw [hlen]; exact size28)) rfl ?_
      · exact World.rangeAt_setCells_same _ _ _ _ (by rw [hlen]; exact HT1.out)
      · exact ⟨by rw [HB.out], upd_setCells HUr.out _ _ _ (fun h => by omega)⟩
end Go.Proofs.Ytckgcfkahffibaa
