import Derived.Test.YtbpeoclhabgcgaaRows
import Derived.Test.YtbpeoclhabgcgaaParts
namespace Go.Proofs.Ytbpeoclhabgcgaa
open Go.RowKit Go.ChangeShapes Go.WideShapes Go.Deep
set_option linter.unusedVariables false
set_option linter.unusedSimpArgs false

theorem up_part {H : Type} {d : DataW H} {l : List (DataW H)} (h : d ∈ l) : Rows.uptoBulk d ≤ Rows.uptoBulkAll l := by
  induction l with
  | nil => cases h
  | cons x r ih =>
    simp only [Rows.uptoBulkAll]
    rcases List.mem_cons.1 h with e | e
    · subst e; omega
    · have := ih e; omega

section
variable {H : Type} {enc : TypeId × Value → H} {w : World} {base : Nat} {spare : Nat → Bool} {held : Bool}
theorem up_rows {P : Program} {t e : TypeId} {fs : Array Field} {fuel : Nat} {ao : Option Addr} {len cap : Nat} {x : DataW H × List MemPlace} (ht : P.underlying t = some (.slice e)) (he : P.underlying e = some (.struct fs))
    (hone : oneCellFields P fs = true) (hC : P.cellsOf e = fs.size) (h : DataW.trod enc P w base spare held fuel t [.slice ao len cap] = some x) :
    ∀ i, i < len → ∃ a, ao = some a ∧ ∀ (j : Nat) (f : Field), fs[j]? = some f →
      ∃ (v : Value) (y : DataW H × List MemPlace) (n : Nat), w.cell? (a.add (i * fs.size + j)) = some v ∧ DataW.trod enc P w base spare held n f.type [v] = some y ∧ Rows.uptoBulk y.1 ≤ Rows.uptoBulk x.1 := by
  rcases open_slice ht h with ⟨hcs, _⟩ | ⟨a, l, c, m, n, D, Pl, hcs, _, hl, hm, hmm, hx, hi⟩
  · simp only [List.cons.injEq, Value.slice.injEq, and_true] at hcs
    obtain ⟨_, rfl, rfl⟩ := hcs
    exact fun i hi => by omega
  · simp only [List.cons.injEq, Value.slice.injEq, and_true] at hcs
    obtain ⟨rfl, rfl, rfl⟩ := hcs
    refine fun i hil => ⟨a, rfl, fun j f hf => ?_⟩
    have him : i < m := by rw [hmm]; split <;> omega
    obtain ⟨cs, hc, hts⟩ := hi i him
    obtain ⟨xs, k, _, hD, hcl, hxl, hfield⟩ := DataW.trod_struct he hts
    obtain ⟨_, hlen, hat⟩ := World.cells?_some hc
    obtain ⟨ho, hk⟩ := hone_of hone j f hf
    have hj : j < fs.size := (Array.getElem?_eq_some_iff.1 hf).1
    have hjc : j < cs.length := by omega
    have hcell := hat j (by omega)
    rw [List.getElem?_eq_getElem hjc, hC, Go.Deep.add_add] at hcell
    have hy := hfield j f hf
    rw [ho, hk, List.drop_eq_getElem_cons hjc, List.take_succ_cons, List.take_zero, List.getElem?_eq_getElem (show j < xs.length by omega)] at hy
    refine ⟨_, _, _, hcell, hy, ?_⟩
    have h1 : Rows.uptoBulk (xs[j]'(by omega)).1 ≤ Rows.uptoBulkAll (xs.map (·.1)) := up_part (List.mem_map.2 ⟨_, List.getElem_mem _, rfl⟩)
    have h2 : D i = .agg (xs.map (·.1)) := congrArg Prod.fst hD
    have h3 : Rows.uptoBulk (D i) ≤ Rows.uptoBulkAll ((List.range len).map D) := up_part (List.mem_map.2 ⟨i, List.mem_range.2 hil, rfl⟩)
    rw [h2] at h3
    simp only [Rows.uptoBulk] at h3
    rw [hx]
    simp only [Rows.uptoBulk]
    omega
theorem texts_bound {fuel : Nat} {ao : Option Addr} {len cap N : Nat} {L : List PartV} {x : DataW H × List MemPlace} (h : DataW.trod enc Try.prog w base spare held fuel 31 [.slice ao len cap] = some x)
    (hp : Parts w (.slice ao len cap) L) (hB : Rows.uptoBulk x.1 ≤ N) : ∀ p ∈ L, p.text.size ≤ N := by
  intro p hpm
  obtain ⟨i, hi, rfl⟩ := List.getElem_of_mem hpm
  obtain ⟨ao', cap', hv, _, hh⟩ := hp
  simp only [Value.slice.injEq] at hv
  obtain ⟨rfl, rfl, rfl⟩ := hv
  rcases hh with rfl | ⟨b, off, rfl, hc⟩
  · simp at hi
  · obtain ⟨a, ha, hf⟩ := up_rows Try.underlying31 Try.underlying33 (by kernel_rfl) (by kernel_rfl) h i hi
    obtain rfl := Option.some.inj ha
    obtain ⟨v3, y3, n3, hc3, ht3, hb3⟩ := hf 3 _ rfl
    have hp3 := (hc i hi).c3
    have add0 : ∀ j, (⟨b, off, none⟩ : Addr).add j = ⟨b, off + j, none⟩ := fun j => by unfold Addr.add; split <;> simp_all
    rw [add0] at hc3
    have e3 : off + i * 4 + 3 = off + (i * 4 + 3) := by omega
    rw [e3] at hp3
    have hc3' : w.cell? ⟨b, off + (i * 4 + 3), none⟩ = some v3 := by simpa using hc3
    rw [hp3] at hc3'
    obtain rfl := Option.some.inj hc3'
    obtain ⟨s, hs, hx, _⟩ := DataW.trod_string Try.underlying9 ht3
    simp only [List.cons.injEq, Value.string.injEq, and_true] at hs
    subst hs
    rw [hx] at hb3
    simp only [Rows.uptoBulk] at hb3
    have e : (L[i].text).data.toList.length = (L[i].text).size := Array.length_toList
    omega
end
end Go.Proofs.Ytbpeoclhabgcgaa
