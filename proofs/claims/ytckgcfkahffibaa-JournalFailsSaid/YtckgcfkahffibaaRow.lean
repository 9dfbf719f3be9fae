import Derived.Test.YtckgcfkahffibaaMem
import Derived.Deep.MidRow
import Derived.Deep.Upon
namespace Go.Proofs.Ytckgcfkahffibaa
open Go.RowKit
set_option linter.unusedVariables false
set_option linter.unusedSimpArgs false

/-- A row of n things of sz cells each, at block g. -/
structure BRow (w : World) (g n sz : Nat) (t : TypeId) (f : Nat → List Value) : Prop where
  row : ∃ C, w.heap[g]? = some (.cells C t (0, 0)) ∧ n * sz ≤ C.size
  len : ∀ i, i < n → (f i).length = sz
  at_ : ∀ i, i < n → w.rangeAt g (i * sz) (f i)

namespace BRow
variable {w w' : World} {g n sz : Nat} {t : TypeId} {f : Nat → List Value}
theorem lt (h : BRow w g n sz t f) : g < w.heap.size := by obtain ⟨C, hC, _⟩ := h.row; exact (Array.getElem?_eq_some_iff.1 hC).1
theorem of_heap (h : BRow w g n sz t f) (hh : w'.heap[g]? = w.heap[g]?) : BRow w' g n sz t f :=
  ⟨by rw [hh]; exact h.row, h.len, fun i hi j v hv => by rw [World.cell?_of_block (w := w) (a := ⟨g, i * sz + j, none⟩) hh]; exact h.at_ i hi j v hv⟩
theorem upd {S : Nat → Prop} (h : BRow w g n sz t f) (hu : Upd S w w') (hn : ¬ S g) : BRow w' g n sz t f := h.of_heap (hu.block g h.lt hn)
theorem there (h : BRow w g n sz t f) (i : Nat) (hi : i < n) : w.there g (i * sz) sz := fun j hj => by
  obtain ⟨C, hC, hs⟩ := h.row
  have hb : i * sz + j < n * sz := by
    have : (i + 1) * sz ≤ n * sz := Nat.mul_le_mul_right _ hi
    rw [Nat.add_mul] at this; omega
  refine ⟨?_, frozen_of_row w g _ C t hC⟩
  rw [cell_of_row w g _ C t (0, 0) hC, Array.getElem?_eq_getElem (by omega)]; rfl
theorem congr {f' : Nat → List Value} (h : BRow w g n sz t f) (hf : ∀ i, i < n → f' i = f i) : BRow w g n sz t f' :=
  ⟨h.row, fun i hi => by rw [hf i hi]; exact h.len i hi, fun i hi => by rw [hf i hi]; exact h.at_ i hi⟩
theorem row_setCells {g : Nat} {t : TypeId} : ∀ (vs : List Value) (o : Nat) (w : World) (C : Array Value), w.heap[g]? = some (.cells C t (0, 0)) → ∃ C', (w.setCells g o vs).heap[g]? = some (.cells C' t (0, 0)) ∧ C'.size = C.size
  | [], o, w, C, h => ⟨C, h, rfl⟩
  | v :: vs, o, w, C, h => by
    obtain ⟨C', h1, h2⟩ := row_setCells vs (o + 1) (w.setCell ⟨g, o, none⟩ v) _ (heap_setCell_same w g o C t v h)
    exact ⟨C', h1, by rw [h2]; simp⟩
theorem put (h : BRow w g n sz t f) (i : Nat) (hi : i < n) (vs : List Value) (hv : vs.length = sz) : BRow (w.setCells g (i * sz) vs) g n sz t (fun k => if k = i then vs else f k) := by
  refine ⟨?_, fun k hk => ?_, fun k hk => ?_⟩
  · obtain ⟨C, hC, hs⟩ := h.row
    obtain ⟨C', h1, h2⟩ := row_setCells vs (i * sz) w C hC
    exact ⟨C', h1, by omega⟩
  · by_cases e : k = i
    · simp [e, hv]
    · simp [e, h.len k hk]
  · by_cases e : k = i
    · subst e
      simp only [if_true]
      exact World.rangeAt_setCells_same w g _ vs (by rw [hv]; exact h.there k hk)
    · simp only [e, if_false]
      refine World.rangeAt_setCells_apart (h.at_ k hk) g _ vs (.inr ?_)
      rw [h.len k hk, hv]
      rcases Nat.lt_or_gt_of_ne e with h1 | h1
      · left
        have : (k + 1) * sz ≤ i * sz := Nat.mul_le_mul_right _ h1
        rw [Nat.add_mul] at this; omega
      · right
        have : (i + 1) * sz ≤ k * sz := Nat.mul_le_mul_right _ h1
        rw [Nat.add_mul] at this; omega
end BRow
theorem upd_setCells {S : Nat → Prop} {a w : World} (h : Upd S a w) (g o : Nat) (vs : List Value) (hg : g < a.heap.size → S g) : Upd S a (w.setCells g o vs) := by
  induction vs generalizing o w with
  | nil => exact h
  | cons v vs ih => exact ih (h.setCell (p := ⟨g, o, none⟩) hg v) (o + 1)

/-- A disk's state: the blocks, as they were at the mark, what was written since, how many writes there are until power goes, has it gone. -/
structure DS where
  bl : Nat → List UInt8
  ml : Nat → List UInt8
  ws : List (Nat × List UInt8)
  left : Int
  gone : Bool
/-- A write's cells. -/
def wcells (x : Nat × List UInt8) : List Value := .int .i64 (x.1 : Int) :: bytesV x.2
def wsV (l : List (Nat × List UInt8)) : List Value := l.flatMap wcells
/-- A disk at block k. -/
structure Dk (w : World) (k gb gm cb cm : Nat) (Wv : Value) (d : DS) : Prop where
  cell : w.heap[k]? = some (.cells #[.slice (some ⟨gb, 0, none⟩) 255 cb, .slice (some ⟨gm, 0, none⟩) 255 cm, Wv, .int .i64 d.left, .bool d.gone] 61 (0, 0))
  bl : BRow w gb 255 64 28 (fun i => bytesV (d.bl i))
  ml : BRow w gm 255 64 28 (fun i => bytesV (d.ml i))
  ws : w.ownsRow 0 33 65 Wv d.ws.length (wsV d.ws)
  at_ : ∀ x ∈ d.ws, x.1 < 255 ∧ x.2.length = 64
  ap : gb ≠ k ∧ gm ≠ k ∧ gb ≠ gm ∧ Wv.ownBlock ≠ some k ∧ Wv.ownBlock ≠ some gb ∧ Wv.ownBlock ≠ some gm
  cap : 255 ≤ cb ∧ cb ≤ maxLen ∧ 255 ≤ cm ∧ cm ≤ maxLen
  left : -1 ≤ d.left ∧ d.left ≤ 9223372036854775807
/-- The blocks that a disk has. -/
def DkS (k gb gm : Nat) (Wv : Value) (j : Nat) : Prop := j = k ∨ j = gb ∨ j = gm ∨ Wv.ownBlock = some j
theorem Dk.upd {S : Nat → Prop} {w w' : World} {k gb gm cb cm : Nat} {Wv : Value} {d : DS} (h : Dk w k gb gm cb cm Wv d) (hu : Upd S w w') (hs : ∀ j, DkS k gb gm Wv j → ¬ S j) : Dk w' k gb gm cb cm Wv d :=
  ⟨hu.heap_some h.cell (hs k (.inl rfl)), h.bl.upd hu (hs gb (.inr (.inl rfl))), h.ml.upd hu (hs gm (.inr (.inr (.inl rfl)))), ownsRow_upd h.ws hu (fun j hj => hs j (.inr (.inr (.inr hj)))), h.at_, h.ap, h.cap, h.left⟩
end Go.Proofs.Ytckgcfkahffibaa
