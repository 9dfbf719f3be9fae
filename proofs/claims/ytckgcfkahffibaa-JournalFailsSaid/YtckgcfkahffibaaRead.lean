import Derived.Test.YtckgcfkahffibaaDisk
import Derived.Laws.Tables
namespace Go.Proofs.Ytckgcfkahffibaa
open Go.RowKit
set_option linter.unusedVariables false
theorem size28 : (Try.prog.info? 28).map (·.size) = some 64 := by kernel_rfl
theorem und28 : ∃ d, Try.prog.underlying 28 = some d ∧ d.isRow = true := ⟨_, Try.underlying28, rfl⟩
theorem bytesV_len64 {l : List UInt8} (h : l.length = 64) : (bytesV l).length = 64 := by rw [bytesV_length, h]
theorem results_cell_tmp {P : Program} {fn : Func} {p q : Tmp} {ty : TypeId} (h : fn.results = #[.cell p ty, .tmp q]) (tmps : Array Value) (w : World) (g : Nat) (t : TypeId) (cs : Array Value) (fr : Nat × Nat) (d : TypeDesc)
    (hp : tmps.getD p undef = .pointer (some ⟨g, 0, none⟩)) (hg : w.heap[g]? = some (.cells cs t fr))
    (hu : P.underlying ty = some d) (hd : (match d with | .struct _ | .array _ _ => true | _ => false) = true) (hi : (P.info? ty).map (·.size) = some cs.size) :
    (results fn tmps).run P w = .ok (.tuple #[.agg cs, tmps.getD q undef]) w := by
  have hp' : tmps[p]?.getD undef = .pointer (some ⟨g, 0, none⟩) := by simpa using hp
  simp [results, h, hp', asAddr, run_loadVar_row w g t ty cs fr d hg hu hd hi]
set_option maxHeartbeats 1000000 in
set_option maxRecDepth 100000 in
theorem read_any (k gb gm cb cm : Nat) (Wv : Value) (d : DS) (at_ : Int) (w : World) (h : Dk w k gb gm cb cm Wv d) (h1 : d.may at_ = 0) :
    Calls Try.prog 19 #[.pointer (some ⟨k, 0, none⟩), .int .i64 at_] w fun e w' => e = .returned (.tuple #[.agg (bytesV (d.bl at_.toNat)).toArray, .int .i64 0]) ∧ Upd (fun _ => False) w w' := by
  have H := Lib.hid h
  have H1 := Lib.hid h1
  have hat : 0 ≤ at_ ∧ at_ < 255 := by
    unfold DS.may at h1
    split at h1
    · omega
    · omega
  obtain ⟨i, rfl⟩ := Int.eq_ofNat_of_zero_le hat.1
  have hi : i < 255 := by omega
  clear h h1 hat
  go_enter Try.func19, Try.ntmps19
  go_wp2_with fail
  generalize hZ : w.alloc (.cells _ 28) = w1
  have hg1 : ∃ Z : Array Value, w1.heap[w.heap.size]? = some (.cells Z 28 (0, 0)) ∧ Z.size = 64 := by rw [← hZ]; exact ⟨_, heap_alloc_new w _, rfl⟩
  have hu1 : Upd (fun _ => False) w w1 := by rw [← hZ]; exact (Upd.refl _ w).alloc _
  have HD1 := Lib.hid (H.out.upd hu1 (fun _ _ h => h))
  have HU1 := Lib.hid hu1
  have HG1 := Lib.hid hg1
  generalize hgz : w.heap.size = g at *
  clear hZ hu1 hg1
  refine (may_any k gb gm cb cm Wv d i w1 HD1.out).mono ?_
  intro e w' h
  rw [H1.out] at h
  obtain ⟨rfl, rfl⟩ := h
  have c0 : w'.cell? ⟨k, 0, none⟩ = some (.slice (some ⟨gb, 0, none⟩) 255 cb) := by rw [cell_of_row w' k 0 _ 61 (0, 0) HD1.out.cell]; rfl
  obtain ⟨Z, hg, hz⟩ := HG1.out
  have hla : (bytesV (d.bl i)).length = 64 := HD1.out.bl.len i hi
  have hgbg : gb ≠ g := by have := H.out.bl.lt; omega
  have hst : (storeCells ⟨g, 0, none⟩ (bytesV (d.bl i))).run Try.prog w' = .ok () (w'.setRow g (bytesV (d.bl i)).toArray) := by
    have := run_storeCells_from (P := Try.prog) g 28 (bytesV (d.bl i)) 0 Z w' hg (by omega) (bytesV_one _)
    simpa using this
  go_wp2_with (refine wpList_load_mid rfl 28 (.tmp 19) rfl gb (i * 64) (by rfl) (bytesV (d.bl i)) _ (HD1.out.bl.at_ i hi) Try.underlying28 rfl (by rw [hla]; exact size28) ?c1)
  refine bodyPost_ret (results_cell_tmp (p := 4) (q := 5) (ty := 28) rfl _ _ g 28 (bytesV (d.bl i)).toArray (0, 0) _ rfl ?_ Try.underlying28 rfl (by rw [List.size_toArray, hla]; exact size28)) rfl ?_
  · exact setRow_heap w' g Z _ 28 _ hg
  · refine ⟨by simp, HU1.out.os, HU1.out.tape, HU1.out.output, by rw [size_setRow]; exact HU1.out.size, fun j hj hn => ?_⟩
    rw [setRow_other w' g j _ (by omega)]
    exact HU1.out.block j hj hn
end Go.Proofs.Ytckgcfkahffibaa
