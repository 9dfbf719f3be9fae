import Derived.Test.YtckgcfkahffibaaLaw24b
namespace Go.Proofs.Ytckgcfkahffibaa
open Go.RowKit
open Go.ChangeShapes Go.WideShapes Go.Deep
set_option linter.unusedVariables false
set_option linter.unusedSimpArgs false
variable {H : Type} {enc : TypeId × Value → H} {w : World} {base : Nat} {spare : Nat → Bool} {held : Bool}
/-- A slice of integers. -/
def IS (w : World) (v : Value) (L : List Int) : Prop :=
  ∃ ao cap, v = .slice ao L.length cap ∧ (L = [] ∨ ∃ b off, ao = some ⟨b, off, none⟩ ∧ ∀ i (h : i < L.length), w.cell? ⟨b, off + i, none⟩ = some (.int .i64 L[i]) ∧ I64 L[i])
theorem is_open {fuel : Nat} {ao : Option Addr} {len cap : Nat} {d : DataW H × List MemPlace} (h : DataW.trod enc Try.prog w base spare held fuel 54 [.slice ao len cap] = some d) : ∃ L, L.length = len ∧ IS w (.slice ao len cap) L := by
  rcases open_slice1 Try.underlying54 (by kernel_rfl) h with ⟨hcs, _⟩ | ⟨a, l, c, m, n, V, D, Pl, hcs, _, hl, hm, hmm, _, hi⟩
  · simp only [List.cons.injEq, Value.slice.injEq, and_true] at hcs
    obtain ⟨rfl, rfl, rfl⟩ := hcs
    exact ⟨[], rfl, none, 0, rfl, .inl rfl⟩
  · simp only [List.cons.injEq, Value.slice.injEq, and_true] at hcs
    obtain ⟨rfl, rfl, rfl⟩ := hcs
    by_cases h0 : len = 0
    · subst h0
      exact ⟨[], rfl, some a, cap, rfl, .inl rfl⟩
    · have hml : len ≤ m := by rw [hmm]; split <;> omega
      have key : ∀ i : Fin len, ∃ n : Int, V i.1 = .int .i64 n ∧ I64 n := fun i => by
        obtain ⟨x0, e0, _, w0⟩ := DataW.trod_int Try.underlying3 (hi i.1 (by omega)).2
        simp only [List.cons.injEq, and_true] at e0
        exact ⟨x0, e0, wf_i64 w0⟩
      obtain ⟨b, off, sp⟩ := a
      have hc0 := (hi 0 (by omega)).1
      have e0 : (⟨b, off, sp⟩ : Addr).add 0 = ⟨b, off, sp⟩ := rfl
      rw [e0] at hc0
      obtain rfl := World.cell?_spot hc0
      refine ⟨List.ofFn fun i => Classical.choose (key i), by simp, _, cap, by simp, .inr ⟨b, off, rfl, fun i hi' => ?_⟩⟩
      have hil : i < len := by simpa using hi'
      have hc := (hi i (by omega)).1
      rw [Addr.add_mid] at hc
      simp only [List.getElem_ofFn]
      have := Classical.choose_spec (key ⟨i, hil⟩)
      refine ⟨?_, this.2⟩
      rw [hc]
      exact congrArg some this.1
end Go.Proofs.Ytckgcfkahffibaa
