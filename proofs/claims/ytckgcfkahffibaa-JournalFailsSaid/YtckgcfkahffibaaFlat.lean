import Derived.Test.YtckgcfkahffibaaWr
namespace Go.Proofs.Ytckgcfkahffibaa
open Go.RowKit
set_option linter.unusedVariables false
set_option linter.unusedSimpArgs false
theorem flat_get {sz : Nat} : ∀ (L : List (List Value)), (∀ l ∈ L, l.length = sz) → ∀ (i : Nat) (hi : i < L.length) (j : Nat), j < sz → L.flatten[i * sz + j]? = (L[i])[j]?
  | [], _, i, hi, _, _ => by simp at hi
  | l :: L, h, 0, _, j, hj => by
    have hl := h l (by simp)
    rw [List.flatten_cons, Nat.zero_mul, Nat.zero_add, List.getElem?_append_left (by omega)]; rfl
  | l :: L, h, i + 1, hi, j, hj => by
    have hl := h l (by simp)
    have ih := flat_get L (fun x hx => h x (by simp [hx])) i (by simpa using hi) j hj
    rw [List.flatten_cons, Nat.add_mul, List.getElem?_append_right (by omega), show i * sz + 1 * sz + j - l.length = i * sz + j by omega, ih]; rfl
theorem flat_len {sz : Nat} : ∀ (L : List (List Value)), (∀ l ∈ L, l.length = sz) → L.flatten.length = L.length * sz
  | [], _ => by simp
  | l :: L, h => by
    have ih := flat_len L (fun x hx => h x (by simp [hx]))
    rw [List.flatten_cons, List.length_append, ih, h l (by simp), List.length_cons, Nat.add_mul]; omega
def rowsL (n : Nat) (f : Nat → List Value) : List (List Value) := (List.range n).map f
theorem rowsL_len (n : Nat) (f : Nat → List Value) : (rowsL n f).length = n := by simp [rowsL]
theorem rowsL_get (n : Nat) (f : Nat → List Value) (i : Nat) (hi : i < (rowsL n f).length) : (rowsL n f)[i] = f i := by simp [rowsL]
theorem rowsL_sz {n sz : Nat} {f : Nat → List Value} (h : ∀ i, i < n → (f i).length = sz) : ∀ l ∈ rowsL n f, l.length = sz := by
  intro l hl
  obtain ⟨i, hi, rfl⟩ := List.mem_map.1 hl
  exact h i (List.mem_range.1 hi)
namespace BRow
variable {w w' : World} {g n sz : Nat} {t : TypeId} {f : Nat → List Value}
theorem flat_at (h : BRow w g n sz t f) : ∀ j u, (rowsL n f).flatten[j]? = some u → w.cell? ⟨g, j, none⟩ = some u := by
  intro j u hj
  have hl := (List.getElem?_eq_some_iff.1 hj).1
  rw [flat_len _ (rowsL_sz h.len), rowsL_len] at hl
  have hsz : 0 < sz := by
    rcases Nat.eq_zero_or_pos sz with e | e
    · rw [e, Nat.mul_zero] at hl; omega
    · exact e
  have hi : j / sz < n := (Nat.div_lt_iff_lt_mul hsz).2 hl
  have hm : j % sz < sz := Nat.mod_lt _ hsz
  have e : j / sz * sz + j % sz = j := by rw [Nat.mul_comm]; exact Nat.div_add_mod j sz
  have := flat_get _ (rowsL_sz h.len) (j / sz) (by rw [rowsL_len]; exact hi) (j % sz) hm
  rw [e, hj, rowsL_get] at this
  have := h.at_ _ hi _ _ this.symm
  rwa [e] at this
theorem of_row {C : Array Value} (hg : w.heap[g]? = some (.cells C t (0, 0))) (hs : n * sz ≤ C.size) (hl : ∀ i, i < n → (f i).length = sz) (ht : C.toList.take (n * sz) = (rowsL n f).flatten) : BRow w g n sz t f := by
  refine ⟨⟨C, hg, hs⟩, hl, fun i hi j v hv => ?_⟩
  have hj : j < sz := by
    have := (List.getElem?_eq_some_iff.1 hv).1
    rw [hl i hi] at this; exact this
  have hb : i * sz + j < n * sz := by
    have : (i + 1) * sz ≤ n * sz := Nat.mul_le_mul_right _ hi
    rw [Nat.add_mul] at this; omega
  have := flat_get _ (rowsL_sz hl) i (by rw [rowsL_len]; exact hi) j hj
  rw [rowsL_get, hv, ← ht, List.getElem?_take, if_pos hb] at this
  rw [cell_of_row w g _ C t (0, 0) hg]
  simpa using this
/-- The whole row laid over. -/
theorem over (h : BRow w g n sz t f) (f' : Nat → List Value) (hl : ∀ i, i < n → (f' i).length = sz) : BRow (w.setCells g 0 (rowsL n f').flatten) g n sz t f' := by
  have hlen : (rowsL n f').flatten.length = n * sz := by rw [flat_len _ (rowsL_sz hl), rowsL_len]
  have hth : w.there g 0 (n * sz) := by
    obtain ⟨C, hC, hs⟩ := h.row
    exact there_row hC hs
  refine ⟨?_, hl, fun i hi j v hv => ?_⟩
  · obtain ⟨C, hC, hs⟩ := h.row
    obtain ⟨C', h1, h2⟩ := row_setCells (rowsL n f').flatten 0 w C hC
    exact ⟨C', h1, by omega⟩
  · have hj : j < sz := by
      have := (List.getElem?_eq_some_iff.1 hv).1
      rw [hl i hi] at this; exact this
    have := flat_get _ (rowsL_sz hl) i (by rw [rowsL_len]; exact hi) j hj
    rw [rowsL_get, hv] at this
    have h2 := World.rangeAt_setCells_same w g 0 (rowsL n f').flatten (by rw [hlen]; exact hth) _ _ this
    rwa [Nat.zero_add] at h2
end BRow
theorem wcells_len {x : Nat × List UInt8} (h : x.2.length = 64) : (wcells x).length = 65 := by simp [wcells, bytesV, h]
theorem wsV_flat (l : List (Nat × List UInt8)) : wsV l = (l.map wcells).flatten := by simp [wsV, List.flatMap]
theorem ws_at {w : World} {g c : Nat} {ws : List (Nat × List UInt8)} (h : w.ownsRow 0 33 65 (.slice (some ⟨g, 0, none⟩) ws.length c) ws.length (wsV ws)) (hl : ∀ x ∈ ws, x.1 < 255 ∧ x.2.length = 64) (i : Nat) (hi : i < ws.length) :
    w.rangeAt g (i * 65) (wcells ws[i]) := by
  intro j v hv
  have hj : j < 65 := by
    have := (List.getElem?_eq_some_iff.1 hv).1
    rw [wcells_len (hl _ (List.getElem_mem hi)).2] at this; exact this
  have hf := flat_get (ws.map wcells) (sz := 65) (fun l hm => by
    obtain ⟨x, hx, rfl⟩ := List.mem_map.1 hm
    exact wcells_len (hl x hx).2) i (by simpa using hi) j hj
  rw [List.getElem_map, hv, ← wsV_flat] at hf
  have := h.cells (g := g) rfl _ _ hf
  rwa [Addr.add_mid, Nat.zero_add] at this
theorem wcells_one (x : Nat × List UInt8) : ∀ u ∈ wcells x, u.oneCell' = true := by
  intro u hu
  rcases List.mem_cons.1 hu with rfl | hu
  · rfl
  · exact bytesV_one _ u hu
theorem wsV_one (l : List (Nat × List UInt8)) : ∀ u ∈ wsV l, u.oneCell' = true := by
  intro u hu
  obtain ⟨x, _, hx⟩ := List.mem_flatMap.1 hu
  exact wcells_one x u hx
end Go.Proofs.Ytckgcfkahffibaa
