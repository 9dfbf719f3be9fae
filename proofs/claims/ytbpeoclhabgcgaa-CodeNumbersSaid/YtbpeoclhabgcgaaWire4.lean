import Derived.Test.YtbpeoclhabgcgaaWire3
namespace Go.Proofs.Ytbpeoclhabgcgaa
open Go.RowKit
set_option linter.unusedVariables false
set_option linter.unusedSimpArgs false

/-- A reader: its bytes, where it is, why and where it refused (0: it did not). -/
structure RS where
  l : List UInt8
  p : Nat
  why : Int
  no : Int

/-- A reader at block a, whose slice is v. -/
structure Rd (w : World) (a : Nat) (v : Value) (r : RS) : Prop where
  cell : w.heap[a]? = some (.cells #[v, .int .i64 (r.p : Int), .int .i64 r.why, .int .i64 r.no] 90 (0, 0))
  own : w.ownsRow 0 5 1 v r.l.length (bytesV r.l)
  apart : v.ownBlock ≠ some a
  le : r.p ≤ r.l.length
  small : r.l.length ≤ 140737488355328

section
variable {w w' : World} {a : Nat} {v : Value} {r : RS} {S : Nat → Prop}
theorem Rd.lt (h : Rd w a v r) : a < w.heap.size := (Array.getElem?_eq_some_iff.1 h.cell).1
theorem Rd.get0 (h : Rd w a v r) : w.cell? ⟨a, 0, none⟩ = some v := by rw [cell_of_row w a 0 _ 90 (0, 0) h.cell]; rfl
theorem Rd.get1 (h : Rd w a v r) : w.cell? ⟨a, 1, none⟩ = some (.int .i64 (r.p : Int)) := by rw [cell_of_row w a 1 _ 90 (0, 0) h.cell]; rfl
theorem Rd.get2 (h : Rd w a v r) : w.cell? ⟨a, 2, none⟩ = some (.int .i64 r.why) := by rw [cell_of_row w a 2 _ 90 (0, 0) h.cell]; rfl
theorem Rd.get3 (h : Rd w a v r) : w.cell? ⟨a, 3, none⟩ = some (.int .i64 r.no) := by rw [cell_of_row w a 3 _ 90 (0, 0) h.cell]; rfl
theorem Rd.free (h : Rd w a v r) (i : Nat) : w.frozen? ⟨a, i, none⟩ = false := frozen_of_row w a i _ 90 h.cell
theorem Rd.upd (h : Rd w a v r) (hu : Upd S w w') (hs : ∀ k, k < w.heap.size → (k = a ∨ v.ownBlock = some k) → ¬ S k) : Rd w' a v r :=
  ⟨hu.heap_some h.cell (hs a h.lt (.inl rfl)), ownsRow_upd h.own hu (fun k hk => hs k (h.own.lt k hk).2 (.inr hk)), h.apart, h.le, h.small⟩
theorem Rd.bytes (h : Rd w a v r) : Bytes w v r.l := Bytes_own h.own
/-- A store into the reader's own cells. -/
theorem Rd.set1 (h : Rd w a v r) (p : Nat) (hp : p ≤ r.l.length) : Rd (w.setCell ⟨a, 1, none⟩ (.int .i64 (p : Int))) a v { r with p := p } :=
  ⟨by rw [heap_setCell_same w a 1 _ 90 _ h.cell]; rfl,
   ownsRow_upd h.own ((Upd.refl (fun k => k = a) w).setCell (p := ⟨a, 1, none⟩) (fun _ => rfl) _) (fun k hk e => h.apart (by rw [hk, e])), h.apart, hp, h.small⟩
theorem Rd.set23 (h : Rd w a v r) (y n : Int) : Rd ((w.setCell ⟨a, 2, none⟩ (.int .i64 y)).setCell ⟨a, 3, none⟩ (.int .i64 n)) a v { r with why := y, no := n } := by
  have h1 : (w.setCell ⟨a, 2, none⟩ (.int .i64 y)).heap[a]? = some (.cells #[v, .int .i64 (r.p : Int), .int .i64 y, .int .i64 r.no] 90 (0, 0)) := by
    rw [heap_setCell_same w a 2 _ 90 _ h.cell]; rfl
  refine ⟨by rw [heap_setCell_same _ a 3 _ 90 _ h1]; rfl, ?_, h.apart, h.le, h.small⟩
  exact ownsRow_upd h.own (((Upd.refl (fun k => k = a) w).setCell (p := ⟨a, 2, none⟩) (fun _ => rfl) _).setCell (p := ⟨a, 3, none⟩) (fun _ => rfl) _) (fun k hk e => h.apart (by rw [hk, e]))
end

/-- The first refusal is kept. -/
def RS.refuse (r : RS) (why at_ : Int) : RS := if r.why = 0 ∧ why ≠ 0 then { r with why := why, no := at_ } else r
/-- What a method of a reader leaves. -/
def RdPost (a : Nat) (v : Value) (r : RS) (w w' : World) : Prop := Rd w' a v r ∧ Upd (fun k => k = a) w w'
theorem RdPost.refl {a : Nat} {v : Value} {r : RS} {w : World} (h : Rd w a v r) : RdPost a v r w w := ⟨h, Upd.refl _ _⟩
theorem RdPost.trans {a : Nat} {v : Value} {r : RS} {w w1 w2 : World} (h : Upd (fun k => k = a) w w1) (h2 : RdPost a v r w1 w2) : RdPost a v r w w2 := ⟨h2.1, h.trans' h2.2⟩

set_option maxHeartbeats 400000 in
set_option maxRecDepth 100000 in
theorem rrefuse_any (a : Nat) (v : Value) (r : RS) (y n : Int) (w : World) (hr : Rd w a v r) :
    Calls Try.prog 57 #[.pointer (some ⟨a, 0, none⟩), .int .i64 y, .int .i64 n] w fun e w' => e = .returned (.tuple #[]) ∧ RdPost a v (r.refuse y n) w w' := by
  have c2 := hr.get2
  have c3 := hr.get3
  have f2 := hr.free 2
  have f3 := hr.free 3
  unfold RS.refuse
  by_cases h1 : r.why = 0
  · have g1 : (r.why == 0) = true := by simp [h1]
    by_cases h2 : y = 0
    · have g2 : (y != 0) = false := by simp [h2]
      rw [if_neg (by simp [h2])]
      clear h1 h2
      go_enter Try.func57, Try.ntmps57
      go_wp2
      go_end0
      exact ⟨rfl, RdPost.refl hr⟩
    · have g2 : (y != 0) = true := by simp [h2]
      rw [if_pos ⟨h1, h2⟩]
      clear h1 h2
      go_enter Try.func57, Try.ntmps57
      go_wp2
      go_end0
      exact ⟨rfl, hr.set23 y n, ((Upd.refl (fun k => k = a) w).setCell (p := ⟨a, 2, none⟩) (fun _ => rfl) _).setCell (p := ⟨a, 3, none⟩) (fun _ => rfl) _⟩
  · have g1 : (r.why == 0) = false := by simp [h1]
    rw [if_neg (by simp [h1])]
    clear h1
    go_enter Try.func57, Try.ntmps57
    go_wp2
    go_end0
    exact ⟨rfl, RdPost.refl hr⟩
end Go.Proofs.Ytbpeoclhabgcgaa
