import Derived.Test.YtbpeoclhabgcgaaInstSame
namespace Go.Proofs.Ytbpeoclhabgcgaa
open Go.RowKit
set_option linter.unusedVariables false
set_option linter.unusedSimpArgs false
set_option maxHeartbeats 2000000 in
set_option maxRecDepth 100000 in
/-- The law's all. -/
theorem insts_all (V V' : Value) (L : List IV) (w : World) (h : IL w V L) (h' : IL w V' L) (hx : ∀ i ∈ L, i.x.natAbs ≤ 9223372036854775808 ∧ i.y.natAbs ≤ 9223372036854775808) :
    Calls Try.prog 45 #[V, V'] w fun e w' => e = .returned (.bool true) ∧ Upd (fun _ => False) w w' := by
  have HI := Lib.hid h
  have HI' := Lib.hid h'
  obtain ⟨ao, cap, rfl, hc1, hm, _⟩ := h
  obtain ⟨ao', cap', rfl, _, _, _⟩ := h'
  have hl : L.length ≤ 9223372036854775807 := by unfold maxLen at hm; omega
  clear hc1 hm
  go_enter Try.func45, Try.ntmps45
  go_wp2
  go_loopw [5] (fun i wr => ∃ k : Nat, i = .int .i64 k ∧ k ≤ L.length ∧ Upd (fun _ => False) w wr) (fun i _ => L.length - (intOf i).toNat)
  case atStart => exact ⟨0, rfl, Nat.zero_le _, Upd.refl _ w⟩
  case round =>
    obtain ⟨k, rfl, hk, hu⟩ := hrel
    by_cases hlt : k < L.length
    · have HIw := HI.out.upd hu
      have HIw' := HI'.out.upd hu
      obtain ⟨ao1, cap1, e1, _, _, q⟩ := HIw
      obtain ⟨ao2, cap2, e2, _, _, q'⟩ := HIw'
      injection e1 with e1a e1b e1c; subst e1a e1c
      injection e2 with e2a e2b e2c; subst e2a e2c
      have hne : ¬ L = [] := by intro e; rw [e] at hlt; simp at hlt
      obtain ⟨b, off, rfl, c1⟩ := q.resolve_left hne
      obtain ⟨b', off', rfl, c2⟩ := q'.resolve_left hne
      obtain ⟨vt, r1, t1⟩ := c1 k hlt
      obtain ⟨vt', r2, t2⟩ := c2 k hlt
      have hxk := hx L[k] (List.getElem_mem hlt)
      have HS : Hid (∀ w', Upd (fun _ => False) wr w' → Calls Try.prog 61 #[.agg (L[k].cells vt).toArray, .agg (L[k].cells vt').toArray] w' fun e w'' => e = .returned (.bool true) ∧ Upd (fun _ => False) w' w'') := fun w' hu' => inst_same L[k] vt vt' _ (t1.upd hu' (fun _ _ hf => hf)) (t2.upd hu' (fun _ _ hf => hf)) hxk.1 hxk.2
      generalize L[k] = I at *
      obtain ⟨a0, op, A, B, x, y, tx, tos⟩ := I
      simp only [IV.cells] at HS r1 r2
      have p0 : wr.cell? ⟨b, off + k * 7, none⟩ = some (.int .i64 a0) := r1 0 _ rfl
      have p1 : wr.cell? ⟨b, off + k * 7 + 1, none⟩ = some (.int .i64 op) := r1 1 _ rfl
      have p2 : wr.cell? ⟨b, off + k * 7 + 2, none⟩ = some (.int .i64 A) := r1 2 _ rfl
      have p3 : wr.cell? ⟨b, off + k * 7 + 3, none⟩ = some (.int .i64 B) := r1 3 _ rfl
      have p4 : wr.cell? ⟨b, off + k * 7 + 4, none⟩ = some (.complex .f64 (fl x) (fl y)) := r1 4 _ rfl
      have p5 : wr.cell? ⟨b, off + k * 7 + 5, none⟩ = some (.string (strOf tx)) := r1 5 _ rfl
      have p6 : wr.cell? ⟨b, off + k * 7 + 6, none⟩ = some (vt) := r1 6 _ rfl
      have q0 : wr.cell? ⟨b', off' + k * 7, none⟩ = some (.int .i64 a0) := r2 0 _ rfl
      have q1 : wr.cell? ⟨b', off' + k * 7 + 1, none⟩ = some (.int .i64 op) := r2 1 _ rfl
      have q2 : wr.cell? ⟨b', off' + k * 7 + 2, none⟩ = some (.int .i64 A) := r2 2 _ rfl
      have q3 : wr.cell? ⟨b', off' + k * 7 + 3, none⟩ = some (.int .i64 B) := r2 3 _ rfl
      have q4 : wr.cell? ⟨b', off' + k * 7 + 4, none⟩ = some (.complex .f64 (fl x) (fl y)) := r2 4 _ rfl
      have q5 : wr.cell? ⟨b', off' + k * 7 + 5, none⟩ = some (.string (strOf tx)) := r2 5 _ rfl
      have q6 : wr.cell? ⟨b', off' + k * 7 + 6, none⟩ = some (vt') := r2 6 _ rfl
      have i0 : (0 : Int) ≤ (k : Int) := by omega
      have i1 : (k : Int) < (L.length : Int) := by omega
      clear c1 c2 hne HI HI' q q' r1 r2 t1 t2 hxk hx
      go_wp2
      go_cut [26] from 11 to 26 (fun t wx => t = .bool false ∧ Upd (fun _ => False) w wx)
      case first =>
        go_region_with (go_at_call 61; refine (HS.out _ (Upd.refl (fun _ => False) wr).drew).mono ?_; rintro e wz ⟨rfl, hz⟩)
        all_goals (
          go_wp2_with fail
          go_meet
          exact ⟨rfl, (hu.trans' (Upd.refl (fun _ => False) wr).drew).trans' hz⟩)
      case rest =>
        obtain ⟨rfl, hu2⟩ := hcut
        go_wp2_with fail
        go_roundw
        case rel => exact ⟨k + 1, by go_num, by omega, hu2⟩
        case measure => simp [intOf]; omega
    · go_wp2
      go_ret
      exact ⟨rfl, hu⟩
end Go.Proofs.Ytbpeoclhabgcgaa
