import Derived.Test.YtckgcfkahffibaaApply
namespace Go.Proofs.Ytckgcfkahffibaa
open Go.RowKit
set_option linter.unusedVariables false
set_option linter.unusedSimpArgs false
/-- All blocks of an array of blocks. -/
def flatV (f : Nat → List UInt8) : List Value := (rowsL 255 (fun i => bytesV (f i))).flatten
def B64 (f : Nat → List UInt8) : Prop := ∀ i, i < 255 → (f i).length = 64
theorem flatV_sz {f : Nat → List UInt8} (h : B64 f) : ∀ l ∈ rowsL 255 (fun i => bytesV (f i)), l.length = 64 := rowsL_sz (fun i hi => by rw [bytesV_length, h i hi])
theorem flatV_len {f : Nat → List UInt8} (h : B64 f) : (flatV f).length = 16320 := by
  unfold flatV; rw [flat_len _ (flatV_sz h), rowsL_len]
theorem flatV_one (f : Nat → List UInt8) : ∀ u ∈ flatV f, u.oneCell' = true := fun u hu => by
  obtain ⟨l, hl, hu⟩ := List.mem_flatten.1 hu
  obtain ⟨i, _, rfl⟩ := List.mem_map.1 hl
  exact bytesV_one _ u hu
theorem flatV_at {f : Nat → List UInt8} (h : B64 f) (i : Nat) (hi : i < 255) : ((flatV f).drop (i * 64)).take 64 = bytesV (f i) := by
  apply List.ext_getElem?
  intro j
  by_cases hj : j < 64
  · rw [List.getElem?_take, if_pos hj, List.getElem?_drop]
    have := flat_get _ (flatV_sz h) i (by rw [rowsL_len]; exact hi) j hj
    rw [rowsL_get] at this
    exact this
  · rw [List.getElem?_take, if_neg hj, List.getElem?_eq_none (by rw [bytesV_length, h i hi]; omega)]
theorem flatV_congr {f g : Nat → List UInt8} (h : ∀ i, i < 255 → f i = g i) : flatV f = flatV g := by
  unfold flatV rowsL
  congr 1
  apply List.map_congr_left
  intro i hi
  rw [h i (List.mem_range.1 hi)]
theorem part28 (xs : List Value) (o : Nat) (w : World) : (part 28 xs.toArray o).run Try.prog w = .ok (.agg ((xs.drop o).take 64).toArray) w := by
  obtain ⟨i0, hi, hz0, hz1, hz2⟩ := info_parts info28
  have hagg : (isAgg 28).run Try.prog w = .ok true w := by
    unfold isAgg
    rw [Sem.run_bind, run_underlying Try.underlying28 w]
    rfl
  unfold part
  simp [Sem.run_bind, hagg, sizeOf, typeInfo, hi, hz1]
theorem eq_block_d (d : Nat) (a b : List UInt8) (ha : a.length = 64) (hb : b.length = 64) (w : World) : (Op.equalIn (d + 2) 28 (.agg (bytesV a).toArray) (.agg (bytesV b).toArray)).run Try.prog w = .ok (decide (a = b)) w := by
  obtain ⟨i5, hi5, _⟩ := info_parts info5
  rw [run_equalIn_array w (d + 1) _ _ Try.underlying28 hi5]
  have hc : Try.prog.cellsOf 5 = 1 := by kernel_rfl
  rw [hc]
  obtain ⟨r, hr, hiff⟩ := eqItems_bytes d a b w (List.range 64) (fun j hj => by have := List.mem_range.1 hj; omega)
  rw [hr]
  congr 1
  have : (∀ j ∈ List.range 64, a[j]? = b[j]?) ↔ a = b := by
    constructor
    · intro h
      apply List.ext_getElem?
      intro j
      by_cases hj : j < 64
      · exact h j (List.mem_range.2 hj)
      · rw [List.getElem?_eq_none (by omega), List.getElem?_eq_none (by omega)]
    · rintro rfl j _; rfl
  rw [this] at hiff
  by_cases e : a = b
  · rw [hiff.2 e]; simp [e]
  · cases r
    · simp [e]
    · exact absurd (hiff.1 rfl) e
theorem eqItems_blocks (d : Nat) (X Y : List Value) (f g : Nat → List UInt8) (m : Nat) (hf : ∀ i, i < m → (f i).length = 64) (hg : ∀ i, i < m → (g i).length = 64) (hX : ∀ j, j < m → (X.drop (j * 64)).take 64 = bytesV (f j)) (hY : ∀ j, j < m → (Y.drop (j * 64)).take 64 = bytesV (g j)) (w : World) : ∀ is : List Nat, (∀ j ∈ is, j < m) →
    ∃ r : Bool, (Op.eqItems (d + 2) 28 64 X.toArray Y.toArray is).run Try.prog w = .ok r w ∧ (r = true ↔ ∀ j ∈ is, f j = g j) := by
  intro is
  induction is with
  | nil => intro _; exact ⟨true, by rw [Op.eqItems]; rfl, by simp⟩
  | cons j is ih =>
    intro h
    obtain ⟨r, hr, hiff⟩ := ih (fun x hx => h x (by simp [hx]))
    have hj := h j (by simp)
    have p1 := part28 X (j * 64) w
    have p2 := part28 Y (j * 64) w
    rw [hX j hj] at p1
    rw [hY j hj] at p2
    have p3 := eq_block_d d (f j) (g j) (hf j hj) (hg j hj) w
    have hstep : (Op.eqItems (d + 2) 28 64 X.toArray Y.toArray (j :: is)).run Try.prog w = if f j = g j then (Op.eqItems (d + 2) 28 64 X.toArray Y.toArray is).run Try.prog w else .ok false w := by
      rw [Op.eqItems, Sem.run_bind, p1, Result.andThen_ok, Sem.run_bind, p2, Result.andThen_ok, Sem.run_bind, p3, Result.andThen_ok]
      by_cases e : f j = g j
      · simp only [e, decide_true, Bool.not_true, if_true, Bool.false_eq_true, if_false]
      · simp only [e, decide_false, Bool.not_false, if_true, if_false, Sem.run_pure]
    rw [hstep]
    by_cases e : f j = g j
    · rw [if_pos e]
      refine ⟨r, hr, ?_⟩
      rw [hiff]; simp [e]
    · rw [if_neg e]
      exact ⟨false, rfl, by simp [e]⟩
theorem eq46' (X Y : List Value) (f g : Nat → List UInt8) (hf : B64 f) (hg : B64 g) (hX : ∀ j, j < 255 → (X.drop (j * 64)).take 64 = bytesV (f j)) (hY : ∀ j, j < 255 → (Y.drop (j * 64)).take 64 = bytesV (g j)) (w : World) : ∃ r : Bool, (Op.equalIn 10000 46 (.agg X.toArray) (.agg Y.toArray)).run Try.prog w = .ok r w ∧ (r = true ↔ ∀ j, j < 255 → f j = g j) := by
  obtain ⟨i28, hi28, _⟩ := info_parts info28
  rw [run_equalIn_array w 9999 _ _ Try.underlying46 hi28]
  have hc : Try.prog.cellsOf 28 = 64 := by kernel_rfl
  rw [hc]
  obtain ⟨r, hr, hiff⟩ := eqItems_blocks 9997 X Y f g 255 hf hg hX hY w (List.range 255) (fun j hj => List.mem_range.1 hj)
  exact ⟨r, hr, by rw [hiff]; simp⟩
end Go.Proofs.Ytckgcfkahffibaa
