import Derived.Test.YtbpeoclhabgcgaaRef
namespace Go.Proofs.Ytbpeoclhabgcgaa
open Go.RowKit
set_option linter.unusedVariables false
set_option linter.unusedSimpArgs false

section
variable {w w' : World} {a : Nat} {v : Value} {r : RS} {S : Nat → Prop}
/-- The cells of a reader that has not refused. -/
theorem Rf.facts (h : Rf w a v r) (hw : r.why = 0) : ∃ y n : Int, w.heap[a]? = some (.cells #[v, .int .i64 (r.p : Int), .bool false, .int .i64 y, .int .i64 n] 62 (0, 0)) ∧
    w.cell? ⟨a, 0, none⟩ = some v ∧ w.cell? ⟨a, 1, none⟩ = some (.int .i64 (r.p : Int)) ∧ w.cell? ⟨a, 2, none⟩ = some (.bool false) ∧ w.frozen? ⟨a, 1, none⟩ = false := by
  obtain ⟨p, y, n, hc, h1, h2⟩ := h.cell
  have hp := h1 hw
  subst hp
  have hf : (r.why != 0) = false := by simp [hw]
  rw [hf] at hc
  refine ⟨y, n, hc, ?_, ?_, ?_, frozen_of_row w a 1 _ 62 hc⟩
  · rw [cell_of_row w a 0 _ 62 (0, 0) hc]; rfl
  · rw [cell_of_row w a 1 _ 62 (0, 0) hc]; rfl
  · rw [cell_of_row w a 2 _ 62 (0, 0) hc]; rfl
/-- The cells of a reader that has refused. -/
theorem Rf.facts' (h : Rf w a v r) (hw : r.why ≠ 0) : ∃ p : Int, w.heap[a]? = some (.cells #[v, .int .i64 p, .bool true, .int .i64 r.why, .int .i64 r.no] 62 (0, 0)) ∧
    w.cell? ⟨a, 0, none⟩ = some v ∧ w.cell? ⟨a, 1, none⟩ = some (.int .i64 p) ∧ w.cell? ⟨a, 2, none⟩ = some (.bool true) ∧ w.cell? ⟨a, 3, none⟩ = some (.int .i64 r.why) ∧ w.cell? ⟨a, 4, none⟩ = some (.int .i64 r.no) := by
  obtain ⟨p, y, n, hc, h1, h2⟩ := h.cell
  obtain ⟨rfl, rfl⟩ := h2 hw
  have hf : (r.why != 0) = true := by simp [hw]
  rw [hf] at hc
  refine ⟨p, hc, ?_, ?_, ?_, ?_, ?_⟩
  · rw [cell_of_row w a 0 _ 62 (0, 0) hc]; rfl
  · rw [cell_of_row w a 1 _ 62 (0, 0) hc]; rfl
  · rw [cell_of_row w a 2 _ 62 (0, 0) hc]; rfl
  · rw [cell_of_row w a 3 _ 62 (0, 0) hc]; rfl
  · rw [cell_of_row w a 4 _ 62 (0, 0) hc]; rfl
/-- Where it has refused, the place says nothing. -/
theorem Rf.anywhere {l : List UInt8} {p q : Nat} {y n : Int} (h : Rf w a v ⟨l, p, y, n⟩) (hy : y ≠ 0) (hq : q ≤ l.length) : Rf w a v ⟨l, q, y, n⟩ := by
  obtain ⟨p0, y0, n0, hc, h1, h2⟩ := h.cell
  exact ⟨⟨p0, y0, n0, hc, fun h => absurd h hy, h2⟩, h.bytes, h.apart, hq, h.small⟩
theorem Rf.set1 (h : Rf w a v r) (q : Nat) (hq : q ≤ r.l.length) : Rf (w.setCell ⟨a, 1, none⟩ (.int .i64 (q : Int))) a v { r with p := q } := by
  obtain ⟨p0, y0, n0, hc, h1, h2⟩ := h.cell
  refine ⟨⟨q, y0, n0, ?_, fun _ => rfl, h2⟩, h.keeps ((Upd.refl (fun k => k = a) w).setCell (p := ⟨a, 1, none⟩) (fun _ => rfl) _), h.apart, hq, h.small⟩
  rw [heap_setCell_same w a 1 _ 62 _ hc]; rfl
end

set_option maxHeartbeats 400000 in
set_option maxRecDepth 100000 in
theorem ffail_any (a : Nat) (v : Value) (r : RS) (y : Int) (w : World) (hr : Rf w a v r) (hy : y ≠ 0) :
    Calls Try.prog 39 #[.pointer (some ⟨a, 0, none⟩), .int .i64 y] w fun e w' => e = .returned (.tuple #[]) ∧ RfPost a v (r.refuse y r.p) w w' := by
  have hyb : (y != 0) = true := by simp [hy]
  by_cases hw : r.why = 0
  · obtain ⟨y0, n0, hc, c0, c1, c2, f1⟩ := hr.facts hw
    have HY := Lib.hid hy
    clear hc hw hy
    go_enter Try.func39, Try.ntmps39
    go_wp2_with fail
    refine (frefuse_any a v r y _ _ hr HY.out).mono ?_
    rintro e w1 ⟨rfl, hp⟩
    have HP := Lib.hid hp
    clear hp
    go_wp2
    go_end0
    exact ⟨rfl, HP.out⟩
  · obtain ⟨p0, hc, c0, c1, c2, c3, c4⟩ := hr.facts' hw
    have HY := Lib.hid hy
    have HR : Hid (∀ n, r.refuse y n = r) := fun n => by simp [RS.refuse, hw]
    clear hc hw hy
    go_enter Try.func39, Try.ntmps39
    go_wp2_with fail
    refine (frefuse_any a v r y _ _ hr HY.out).mono ?_
    rintro e w1 ⟨rfl, hp⟩
    have HP := Lib.hid hp
    clear hp
    go_wp2
    go_end0
    refine ⟨rfl, ?_⟩
    rw [HR.out]; have := HP.out; rw [HR.out] at this; exact this

set_option maxHeartbeats 400000 in
set_option maxRecDepth 100000 in
theorem fleft_any (a : Nat) (v : Value) (r : RS) (w : World) (hr : Rf w a v r) :
    Calls Try.prog 41 #[.pointer (some ⟨a, 0, none⟩)] w fun e w' => e = .returned (.int .i64 r.left) ∧ ∃ n, w' = w.drewN n := by
  have hle := hr.le
  have hsm := hr.small
  have hsh : ∃ ao cap, v = .slice ao r.l.length cap := by
    obtain ⟨ao, cap, rfl, _⟩ := hr.bytes
    exact ⟨ao, cap, rfl⟩
  obtain ⟨ao, cap, rfl⟩ := hsh
  unfold RS.left
  by_cases hw : r.why = 0
  · obtain ⟨y0, n0, hc, c0, c1, c2, f1⟩ := hr.facts hw
    rw [if_pos hw]
    clear hc hw
    go_enter Try.func41, Try.ntmps41
    go_wp2
    go_quiet (fail)
    go_wp2
    go_ret
    exact ⟨rfl, _, rfl⟩
  · obtain ⟨p0, hc, c0, c1, c2, c3, c4⟩ := hr.facts' hw
    rw [if_neg hw]
    clear hc hw
    go_enter Try.func41, Try.ntmps41
    go_wp2
    go_ret
    exact ⟨rfl, 0, rfl⟩

set_option maxHeartbeats 400000 in
set_option maxRecDepth 100000 in
theorem fend_any (a : Nat) (v : Value) (r : RS) (w : World) (hr : Rf w a v r) :
    Calls Try.prog 40 #[.pointer (some ⟨a, 0, none⟩)] w fun e w' => e = .returned (.tuple #[.int .i64 r.fin.1, .int .i64 r.fin.2]) ∧ ∃ n, w' = w.drewN n := by
  have hle := hr.le
  have hsm := hr.small
  have hsh : ∃ ao cap, v = .slice ao r.l.length cap := by
    obtain ⟨ao, cap, rfl, _⟩ := hr.bytes
    exact ⟨ao, cap, rfl⟩
  obtain ⟨ao, cap, rfl⟩ := hsh
  unfold RS.fin
  by_cases hw : r.why = 0
  · obtain ⟨y0, n0, hc, c0, c1, c2, f1⟩ := hr.facts hw
    rw [if_pos hw]
    clear hc hw
    by_cases h2 : r.p < r.l.length
    · rw [if_pos h2]
      have g2 : decide (r.p < r.l.length) = true := by simp [h2]
      go_enter Try.func40, Try.ntmps40
      go_wp2
      go_quiet (fail)
      go_wp2
      go_quiet (fail)
      go_wp2
      go_ret2
      exact ⟨rfl, drewN_two _ _ _⟩
    · rw [if_neg h2]
      have g2 : decide (r.p < r.l.length) = false := by simp; omega
      go_enter Try.func40, Try.ntmps40
      go_wp2
      go_quiet (fail)
      go_wp2
      go_ret2
      exact ⟨rfl, _, rfl⟩
  · obtain ⟨p0, hc, c0, c1, c2, c3, c4⟩ := hr.facts' hw
    rw [if_neg hw]
    clear hc hw
    go_enter Try.func40, Try.ntmps40
    go_wp2
    go_quiet (fail)
    go_wp2
    go_ret2
    exact ⟨rfl, _, rfl⟩
end Go.Proofs.Ytbpeoclhabgcgaa
