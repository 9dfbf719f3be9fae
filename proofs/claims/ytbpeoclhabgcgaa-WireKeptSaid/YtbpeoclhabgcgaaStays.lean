import Derived.Test.YtbpeoclhabgcgaaBk
namespace Go.Proofs.Ytbpeoclhabgcgaa
open Go.RowKit
set_option linter.unusedVariables false
set_option linter.unusedSimpArgs false

set_option maxHeartbeats 1000000 in
set_option maxRecDepth 100000 in
theorem stays_any (B k : Nat) (Lv Wv : Value) (s : Int) (E : List Ent) (w : World) (hc : Bc w B k Lv Wv s (E.map (·.v)) (E.map (·.x))) (he : Ents w B Lv Wv E) (hE : E.length ≤ 1000) :
    Calls Try.prog 55 #[.pointer (some ⟨k, 0, none⟩)] w fun e w' => e = .returned (.bool true) ∧ Bc w' B k Lv Wv s (E.map (·.v)) (E.map (·.x)) ∧ Upd (fun j => j = k) w w' := by
  have HC := Lib.hid hc
  have HE := Lib.hid he
  obtain ⟨aol, capl, rfl, hl1, hl2, hl3⟩ := hc.lst.shape
  obtain ⟨aow, capw, rfl, hw1, hw2, hw3⟩ := hc.was.shape
  have HLc := Lib.hid hl3
  have HWc := Lib.hid hw3
  simp only [List.length_map] at *
  clear hc he hl3 hw3 hl1 hl2 hw1 hw2
  go_enter Try.func55, Try.ntmps55
  go_wp2_with fail
  go_loopw [3] (fun i wr => ∃ m : Nat, i = .int .i64 m ∧ m ≤ E.length ∧ Bc wr B k (.slice aol E.length capl) (.slice aow E.length capw) s (E.map (·.v)) (E.map (·.x)) ∧ Upd (fun j => j = k) w wr) (fun i _ => E.length - (intOf i).toNat)
  case atStart => exact ⟨0, rfl, Nat.zero_le _, HC.out, Upd.refl _ _⟩
  case round =>
    obtain ⟨m, rfl, hm, hcr, hur⟩ := hrel
    have HCr := Lib.hid hcr
    have HUr := Lib.hid hur
    have c0 := hcr.c0
    have c1 := hcr.c1
    have c3 := hcr.c3
    have d3 := hcr.fr 3
    by_cases hlt : m < E.length
    · obtain ⟨gl, dl, rfl, hlc⟩ := HLc.out (by omega)
      obtain ⟨gw, dw, rfl, hwc⟩ := HWc.out (by omega)
      have kgl : k ≠ gl := by have := (hcr.lst.lt gl rfl).1; have := hcr.kB; omega
      have kgw : k ≠ gw := by have := (hcr.was.lt gw rfl).1; have := hcr.kB; omega
      have hmem : E[m] ∈ E := List.getElem_mem hlt
      have e0 := hur.cell_some (hlc m (by simpa using hlt)) (fun h => kgl h.symm)
      have e1 := hur.cell_some (hwc m (by simpa using hlt)) (fun h => kgw h.symm)
      simp only [List.getElem_map] at e0 e1
      generalize E[m] = e at *
      have HB1 : Hid (Bytes wr.drew e.v e.l) := Bytes_drewN (Bytes_upd (Bytes_own (HE.out.v e hmem)) hur (fun j hj h => by have := ((HE.out.v e hmem).lt j hj).1; have := hcr.kB; omega)) 1
      have HB2 : Hid (Bytes wr.drew e.x e.l) := Bytes_drewN (Bytes_upd (Bytes_own (HE.out.x e hmem)) hur (fun j hj h => by have := ((HE.out.x e hmem).lt j hj).1; have := hcr.kB; omega)) 1
      have HL : Hid (e.l.length ≤ 140737488355328) := HE.out.len e hmem
      have HC5 : Hid (∀ q, Bc ((wr.drewN q).setCell ⟨k, 3, none⟩ (.bool false)) B k (.slice (some ⟨gl, dl, none⟩) E.length capl) (.slice (some ⟨gw, dw, none⟩) E.length capw) s (E.map (·.v)) (E.map (·.x))) := fun q => (HCr.out.upd ((Upd.refl (fun _ => False) wr).drewN q) (fun h => h) (fun _ _ _ h => h)).put3
      have HU5 : Hid (∀ q, Upd (fun j => j = k) wr ((wr.drewN q).setCell ⟨k, 3, none⟩ (.bool false))) := fun q => Upd.setCell (S := fun j => j = k) ((Upd.refl (fun j => j = k) wr).drewN q) (p := ⟨k, 3, none⟩) (fun _ => rfl) (.bool false)
      have HK3 : Hid (∀ q, ((wr.drewN q).setCell ⟨k, 3, none⟩ (.bool false)).cell? ⟨k, 3, none⟩ = some (.bool false) ∧ ((wr.drewN q).setCell ⟨k, 3, none⟩ (.bool false)).cell? ⟨k, 0, none⟩ = some (.slice (some ⟨gl, dl, none⟩) E.length capl) ∧ ((wr.drewN q).setCell ⟨k, 3, none⟩ (.bool false)).cell? ⟨k, 1, none⟩ = some (.slice (some ⟨gw, dw, none⟩) E.length capw) ∧ ((wr.drewN q).setCell ⟨k, 3, none⟩ (.bool false)).cell? ⟨gl, dl + m, none⟩ = some e.v ∧ ((wr.drewN q).setCell ⟨k, 3, none⟩ (.bool false)).cell? ⟨gw, dw + m, none⟩ = some e.x ∧ ((wr.drewN q).setCell ⟨k, 3, none⟩ (.bool false)).frozen? ⟨k, 3, none⟩ = false) := fun q => ⟨(HC5.out q).c3, (HC5.out q).c0, (HC5.out q).c1, (HU5.out q).cell_some e0 (fun h => kgl h.symm), (HU5.out q).cell_some e1 (fun h => kgw h.symm), (HC5.out q).fr 3⟩
      have i0 : (0 : Int) ≤ (m : Int) := by omega
      have i1 : (m : Int) < (E.length : Int) := by omega
      clear hcr hur hlc hwc
      go_wp2_with fail
      go_region_held3 (fun w' => w'.cell? ⟨k, 3, none⟩ = some (.bool false) ∧ w'.cell? ⟨k, 0, none⟩ = some (.slice (some ⟨gl, dl, none⟩) E.length capl) ∧ w'.cell? ⟨k, 1, none⟩ = some (.slice (some ⟨gw, dw, none⟩) E.length capw) ∧ w'.cell? ⟨gl, dl + m, none⟩ = some e.v ∧ w'.cell? ⟨gw, dw + m, none⟩ = some e.x ∧ w'.frozen? ⟨k, 3, none⟩ = false) (first | exact HK3.out _ | go_keep)
        ((go_at_call 53; refine (same_eq e.v e.x e.l _ HB1.out HB2.out HL.out).mono ?_; rintro er wA ⟨rfl, nA, rfl⟩))
      rename_i hHeld
      have HC6 := Lib.hid (HC5.out (1 + nA))
      have HU6 := Lib.hid (HU5.out (1 + nA))
      clear HC5 HU5 HK3 HB1 HB2 hHeld
      go_wp2_with fail
      go_roundw
      case rel => exact ⟨m + 1, by go_num, by omega, HC6.out, HUr.out.trans' HU6.out⟩
      case measure => simp [intOf]; omega
    · have hme : m = E.length := by omega
      have b1 : decide (m < E.length) = false := by simp; omega
      clear hcr hur hlt hme
      go_wp2_with fail
      go_ret
      exact ⟨rfl, HCr.out, HUr.out⟩
end Go.Proofs.Ytbpeoclhabgcgaa
