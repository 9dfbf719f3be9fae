/-
  HOW A SLICE OF STRUCTS THAT CAME IN IS OPENED: each field of each element is a cell that reads as its kind says. No program in sight.
-/
import Derived.Test.YtbpeoclhabgcgaaMem
import Derived.Deep.Slices
import Derived.Deep.Fields
import Derived.ChangeSame
namespace Go.Proofs.Ytbpeoclhabgcgaa
open Go.RowKit Go.ChangeShapes Go.WideShapes Go.Deep
set_option linter.unusedVariables false
set_option linter.unusedSimpArgs false
section
variable {H : Type} {enc : TypeId × Value → H} {P : Program} {w : World} {base : Nat} {spare : Nat → Bool} {held : Bool}

theorem open_rows {t e : TypeId} {fs : Array Field} {fuel : Nat} {ao : Option Addr} {len cap : Nat} {x : DataW H × List MemPlace} (ht : P.underlying t = some (.slice e)) (he : P.underlying e = some (.struct fs))
    (hone : oneCellFields P fs = true) (hC : P.cellsOf e = fs.size) (h : DataW.trod enc P w base spare held fuel t [.slice ao len cap] = some x) :
    len ≤ cap ∧ cap ≤ maxLen ∧ ∀ i, i < len → ∃ a, ao = some a ∧ ∀ (j : Nat) (f : Field), fs[j]? = some f →
      ∃ (v : Value) (y : DataW H × List MemPlace) (n : Nat), w.cell? (a.add (i * fs.size + j)) = some v ∧ DataW.trod enc P w base spare held n f.type [v] = some y := by
  rcases open_slice ht h with ⟨hcs, _⟩ | ⟨a, l, c, m, n, D, Pl, hcs, _, hl, hm, hmm, _, hi⟩
  · simp only [List.cons.injEq, Value.slice.injEq, and_true] at hcs
    obtain ⟨_, rfl, rfl⟩ := hcs
    exact ⟨Nat.le_refl _, by simp [maxLen], fun i hi => by omega⟩
  · simp only [List.cons.injEq, Value.slice.injEq, and_true] at hcs
    obtain ⟨rfl, rfl, rfl⟩ := hcs
    refine ⟨hl, hm, fun i hil => ⟨a, rfl, fun j f hf => ?_⟩⟩
    have him : i < m := by rw [hmm]; split <;> omega
    obtain ⟨cs, hc, hts⟩ := hi i him
    obtain ⟨xs, k, _, _, hcl, hxl, hfield⟩ := DataW.trod_struct he hts
    obtain ⟨_, hlen, hat⟩ := World.cells?_some hc
    obtain ⟨ho, hk⟩ := hone_of hone j f hf
    have hj : j < fs.size := (Array.getElem?_eq_some_iff.1 hf).1
    have hjc : j < cs.length := by omega
    have hcell := hat j (by omega)
    rw [List.getElem?_eq_getElem hjc, hC, Go.Deep.add_add] at hcell
    have hy := hfield j f hf
    rw [ho, hk, List.drop_eq_getElem_cons hjc, List.take_succ_cons, List.take_zero, List.getElem?_eq_getElem (show j < xs.length by omega)] at hy
    exact ⟨_, _, _, hcell, hy⟩
/-- What a slice reads as: as many elements as it is long. -/
theorem slice_datum {t e : TypeId} {fuel : Nat} {ao : Option Addr} {len cap : Nat} {x : DataW H × List MemPlace} (ht : P.underlying t = some (.slice e))
    (h : DataW.trod enc P w base spare held fuel t [.slice ao len cap] = some x) : len = 0 ∨ ∃ elems rest, x.1 = .slice elems rest ∧ elems.length = len := by
  rcases open_slice ht h with ⟨hcs, _⟩ | ⟨a, l, c, m, n, D, Pl, hcs, _, hl, hm, hmm, hx, hi⟩
  · simp only [List.cons.injEq, Value.slice.injEq, and_true] at hcs
    exact .inl hcs.2.1
  · simp only [List.cons.injEq, Value.slice.injEq, and_true] at hcs
    obtain ⟨rfl, rfl, rfl⟩ := hcs
    exact .inr ⟨_, _, by rw [hx], by simp⟩
end
end Go.Proofs.Ytbpeoclhabgcgaa
