import Derived.Test.YtckgcfkahffibaaDsk
namespace Go.Proofs.Ytckgcfkahffibaa
open Go.RowKit
set_option linter.unusedVariables false
set_option linter.unusedSimpArgs false
def DS.new : DS := ⟨fun _ => one 0, fun _ => one 0, [], -1, false⟩
theorem info28 : (Try.prog.info? 28).map (fun i => (i.zero, i.size, i.bytes)) = some (some (Value.agg (List.replicate 64 (Value.int .u8 0)).toArray), 64, 64) := by kernel_rfl
theorem rep_get (n : Nat) (v : Value) (m : Nat) (h : m < n) : (List.replicate n v).toArray[m]! = v := by simp [h]
theorem make59 : ∃ C : Array Value, C.size = 16320 ∧ (∀ j, j < 16320 → C[j]? = some (.int .u8 0)) ∧
    ∀ w, (Instr.makeSlice 59 (.int .i64 255) (.int .i64 255)).run Try.prog w = .ok (.slice (some ⟨w.heap.size, 0, none⟩) 255 255) (w.alloc (.cells C 28)) := by
  obtain ⟨i0, hi, hz0, hz1, hz2⟩ := info_parts info28
  refine ⟨madeCells (Value.agg (List.replicate 64 (Value.int .u8 0)).toArray).cells (255 * 64), size_madeCells _ _, fun j hj => ?_, fun w => ?_⟩
  · have hm : j % 64 < 64 := Nat.mod_lt _ (by decide)
    simp only [madeCells, Value.cells, Array.getElem?_map, List.size_toArray, List.length_replicate]
    rw [Array.getElem?_eq_getElem (by simpa using hj)]
    simp only [Array.getElem_range, Option.map_some, rep_get 64 _ _ hm]
  · have hr := run_make (P := Try.prog) w 59 28 i0 _ Try.underlying59 hi hz0 .i64 .i64 255 255 (by omega) (Int.le_refl _) (by rw [hz2]; omega) (by omega)
    rw [hr, hz1]
    rfl
theorem new_row {w : World} {g : Nat} {C : Array Value} (hs : C.size = 16320) (hz : ∀ j, j < 16320 → C[j]? = some (.int .u8 0)) (h : w.heap[g]? = some (.cells C 28 (0, 0))) : BRow w g 255 64 28 (fun i => bytesV (one 0)) := by
  refine ⟨⟨C, h, by omega⟩, fun i hi => by simp [bytesV, one], fun i hi j v hv => ?_⟩
  have hj : j < 64 := by
    have := (List.getElem?_eq_some_iff.1 hv).1
    simpa [bytesV, one] using this
  rw [cell_of_row w g _ C 28 (0, 0) h, hz _ (by omega), ← hv, ← zeros64, List.getElem?_replicate, if_pos hj]
theorem new_end {w' : World} {C : Array Value} {g1 g2 k : Nat} (hs : C.size = 16320) (hz : ∀ j, j < 16320 → C[j]? = some (.int .u8 0)) (h1 : w'.heap[g1]? = some (.cells C 28 (0, 0))) (h2 : w'.heap[g2]? = some (.cells C 28 (0, 0)))
    (h3 : w'.heap[k]? = some (.cells #[.slice (some ⟨g1, 0, none⟩) 255 255, .slice (some ⟨g2, 0, none⟩) 255 255, .slice none 0 0, .int .i64 (-1), .bool false] 61 (0, 0)))
    (h12 : g1 ≠ g2) (h13 : g1 ≠ k) (h23 : g2 ≠ k) : Dk w' k g1 g2 255 255 (.slice none 0 0) DS.new :=
  ⟨h3, new_row hs hz h1, new_row hs hz h2, World.ownsRow_nil w' 0 33 65, fun x hx => by simp [DS.new] at hx, ⟨h13, h23, h12, by simp [Value.ownBlock], by simp [Value.ownBlock], by simp [Value.ownBlock]⟩, by decide, by decide⟩

theorem three_heap (w : World) (a b c : Obj) : (((w.alloc a).alloc b).alloc c).drew.heap[w.heap.size]? = some a ∧ (((w.alloc a).alloc b).alloc c).drew.heap[w.heap.size + 1]? = some b ∧ (((w.alloc a).alloc b).alloc c).drew.heap[w.heap.size + 1 + 1]? = some c := by
  have s1 : (w.alloc a).heap.size = w.heap.size + 1 := by simp
  have s2 : ((w.alloc a).alloc b).heap.size = w.heap.size + 1 + 1 := by simp
  refine ⟨?_, ?_, ?_⟩
  · show (((w.alloc a).alloc b).alloc c).heap[_]? = _
    rw [Below.heap_alloc _ _ _ (by omega), Below.heap_alloc _ _ _ (by omega)]; exact heap_alloc_new w a
  · show (((w.alloc a).alloc b).alloc c).heap[_]? = _
    rw [Below.heap_alloc _ _ _ (by omega), ← s1]; exact heap_alloc_new _ b
  · show (((w.alloc a).alloc b).alloc c).heap[_]? = _
    rw [← s2]; exact heap_alloc_new _ c
set_option maxHeartbeats 1000000 in
set_option maxRecDepth 100000 in
theorem new_dsk (w : World) :
    Calls Try.prog 12 #[] w fun e w' => ∃ k S, e = .returned (.pointer (some ⟨k, 0, none⟩)) ∧ Dsk w' k DS.new S ∧ (∀ j, S j → w.heap.size ≤ j) ∧ Upd (fun _ => False) w w' := by
  obtain ⟨C, hs, hz, hmk⟩ := make59
  have HS := Lib.hid hs
  have HZ := Lib.hid hz
  clear hs hz
  go_enter Try.func12, Try.ntmps12
  go_wp2_with fail
  go_region_with (fail)
  all_goals go_wp2_with fail
  all_goals go_ret
  case _ =>
    obtain ⟨h1, h2, h3⟩ := three_heap w (.cells C 28) (.cells C 28) _
    refine ⟨w.heap.size + 1 + 1, _, rfl, ⟨w.heap.size, w.heap.size + 1, 255, 255, _, new_end HS.out HZ.out h1 h2 h3 (by omega) (by omega) (by omega), rfl⟩, ?_, ((((Upd.refl _ w).alloc _).alloc _).alloc _).drew⟩
    rintro j (rfl | rfl | rfl | hj)
    · omega
    · omega
    · omega
    · simp [Value.ownBlock] at hj
  case _ =>
    obtain ⟨h1, h2, h3⟩ := three_heap w (.cells C 28) (.cells C 28) _
    refine ⟨w.heap.size + 1 + 1, _, rfl, ⟨w.heap.size + 1, w.heap.size, 255, 255, _, new_end HS.out HZ.out h2 h1 h3 (by omega) (by omega) (by omega), rfl⟩, ?_, ((((Upd.refl _ w).alloc _).alloc _).alloc _).drew⟩
    rintro j (rfl | rfl | rfl | hj)
    · omega
    · omega
    · omega
    · simp [Value.ownBlock] at hj
end Go.Proofs.Ytckgcfkahffibaa
