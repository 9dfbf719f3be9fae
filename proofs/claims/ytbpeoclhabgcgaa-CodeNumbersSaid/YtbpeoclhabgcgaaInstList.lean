import Derived.Test.YtbpeoclhabgcgaaInstAll
/-
  A LIST OF INSTRUCTIONS, CELL BY CELL.
-/
namespace Go.Proofs.Ytbpeoclhabgcgaa
open Go.RowKit
set_option linter.unusedVariables false
set_option linter.unusedSimpArgs false
/-- The cells of a list of instructions; the slices of integers stand apart. -/
def flat : List IV → List Value → List Value
  | i :: L, v :: vs => i.cells v ++ flat L vs
  | _, _ => []
theorem cells_len (i : IV) (v : Value) : (i.cells v).length = 7 := rfl
theorem flat_len : ∀ (L : List IV) (vs : List Value), vs.length = L.length → (flat L vs).length = L.length * 7
  | [], [], _ => rfl
  | [], _ :: _, h => by simp at h
  | _ :: _, [], h => by simp at h
  | i :: L, v :: vs, h => by
    simp only [flat, List.length_append, cells_len, List.length_cons]
    rw [flat_len L vs (by simpa using h)]; omega
theorem flat_app (i : IV) (v : Value) : ∀ (L : List IV) (vs : List Value), vs.length = L.length → flat (L ++ [i]) (vs ++ [v]) = flat L vs ++ i.cells v
  | [], [], _ => by simp [flat]
  | [], _ :: _, h => by simp at h
  | _ :: _, [], h => by simp at h
  | a :: L, b :: vs, h => by
    simp only [flat, List.cons_append, flat_app i v L vs (by simpa using h), List.append_assoc]
theorem flat_get : ∀ (L : List IV) (vs : List Value) (i j : Nat) (I : IV) (v : Value), L[i]? = some I → vs[i]? = some v → j < 7 → (flat L vs)[i * 7 + j]? = (I.cells v)[j]?
  | [], _, i, j, I, v, h, _, _ => by simp at h
  | _ :: _, [], i, j, I, v, _, h, _ => by simp at h
  | a :: L, b :: vs, 0, j, I, v, h1, h2, hj => by
    simp only [List.getElem?_cons_zero, Option.some.injEq] at h1 h2
    subst h1; subst h2
    simp only [flat, Nat.zero_mul, Nat.zero_add]
    rw [List.getElem?_append_left (by rw [cells_len]; exact hj)]
  | a :: L, b :: vs, i + 1, j, I, v, h1, h2, hj => by
    simp only [List.getElem?_cons_succ] at h1 h2
    simp only [flat]
    rw [List.getElem?_append_right (by rw [cells_len]; omega), cells_len, show (i + 1) * 7 + j - 7 = i * 7 + j by omega]
    exact flat_get L vs i j I v h1 h2 hj
/-- A list of instructions of the call's own, in memory; e is the type of its elements. -/
def LW (w : World) (base : Nat) (e : TypeId) (lv : Value) (L : List IV) : Prop :=
  ∃ vs : List Value, vs.length = L.length ∧ w.ownsRow base e 7 lv L.length (flat L vs) ∧
    ∀ (i : Nat) (I : IV) (v : Value), L[i]? = some I → vs[i]? = some v → Ints w v I.tos ∧ ∀ k, v.ownBlock = some k → base ≤ k ∧ k < w.heap.size ∧ lv.ownBlock ≠ some k
theorem LW.nil (w : World) (base : Nat) (e : TypeId) : LW w base e (.slice none 0 0) [] :=
  ⟨[], rfl, ⟨rfl, .inl ⟨rfl, rfl⟩⟩, fun i I v h => by simp at h⟩
theorem LW.upd {S : Nat → Prop} {w w' : World} {base : Nat} {e : TypeId} {lv : Value} {L : List IV} (h : LW w base e lv L) (hu : Upd S w w') (hn : ∀ k, lv.ownBlock = some k → ¬ S k) (hs : ∀ k, base ≤ k → k < w.heap.size → lv.ownBlock ≠ some k → ¬ S k) : LW w' base e lv L := by
  obtain ⟨vs, h1, h2, h3⟩ := h
  refine ⟨vs, h1, ownsRow_upd h2 hu hn, fun i I v hi hv => ?_⟩
  obtain ⟨a, b⟩ := h3 i I v hi hv
  exact ⟨a.upd hu (fun k hk => hs k (b k hk).1 (b k hk).2.1 (b k hk).2.2), fun k hk => ⟨(b k hk).1, Nat.lt_of_lt_of_le (b k hk).2.1 hu.size, (b k hk).2.2⟩⟩
theorem LW.il {w : World} {base : Nat} {e : TypeId} {lv : Value} {L : List IV} (h : LW w base e lv L) : IL w lv L := by
  obtain ⟨vs, h1, h2, h3⟩ := h
  obtain ⟨hl, h2⟩ := h2
  rcases h2 with ⟨rfl, hn⟩ | ⟨g, cap, cur, rfl, hb, hg, hn, hm, hc, ht⟩
  · exact ⟨none, 0, by rw [hn], by omega, by unfold maxLen; omega, .inl (List.length_eq_zero_iff.1 hn)⟩
  · refine ⟨_, cap, rfl, hn, hm, .inr ⟨g, 0, rfl, fun i hi => ?_⟩⟩
    have hv : vs[i]? = some (vs[i]'(by omega)) := List.getElem?_eq_getElem _
    have hI : L[i]? = some L[i] := List.getElem?_eq_getElem _
    refine ⟨vs[i]'(by omega), fun j u hj => ?_, (h3 i _ _ hI hv).1⟩
    have hj7 : j < 7 := by
      have := (List.getElem?_eq_some_iff.1 hj).1
      rw [cells_len] at this; exact this
    rw [cell_of_row w g _ cur e (0, 0) hg]
    have h5 := flat_get L vs i j _ _ hI hv hj7
    rw [← ht, List.getElem?_take, if_pos (by omega), hj] at h5
    rw [Nat.zero_add]
    simpa using h5
/-- One instruction behind the others. -/
theorem LW.push {w w' : World} {base : Nat} {e : TypeId} {lv v v' : Value} {L : List IV} {i : IV} {vs : List Value} (h1 : vs.length = L.length)
    (h3 : ∀ (i : Nat) (I : IV) (v : Value), L[i]? = some I → vs[i]? = some v → Ints w v I.tos ∧ ∀ k, v.ownBlock = some k → base ≤ k ∧ k < w.heap.size ∧ lv.ownBlock ≠ some k)
    (hi : Ints w v i.tos) (hk : ∀ k, v.ownBlock = some k → base ≤ k ∧ k < w.heap.size ∧ lv.ownBlock ≠ some k)
    (ho : w'.ownsRow base e 7 v' (L.length + 1) (flat L vs ++ i.cells v)) (hu : Upd (fun k => lv.ownBlock = some k) w w')
    (hb : ∀ k, v'.ownBlock = some k → lv.ownBlock = some k ∨ w.heap.size ≤ k) : LW w' base e v' (L ++ [i]) := by
  have key : ∀ (u : Value) (l : List Int), Ints w u l → (∀ k, u.ownBlock = some k → base ≤ k ∧ k < w.heap.size ∧ lv.ownBlock ≠ some k) →
      Ints w' u l ∧ ∀ k, u.ownBlock = some k → base ≤ k ∧ k < w'.heap.size ∧ v'.ownBlock ≠ some k := fun u l a b =>
    ⟨a.upd hu (fun k hk => (b k hk).2.2), fun k hk => ⟨(b k hk).1, Nat.lt_of_lt_of_le (b k hk).2.1 hu.size, fun e => by
      rcases hb k e with h | h
      · exact (b k hk).2.2 h
      · have := (b k hk).2.1; omega⟩⟩
  refine ⟨vs ++ [v], by simp [h1], ?_, fun n I u hI hu' => ?_⟩
  · rw [flat_app i v L vs h1, List.length_append, List.length_singleton]; exact ho
  · by_cases hn : n < L.length
    · rw [List.getElem?_append_left hn] at hI
      rw [List.getElem?_append_left (by omega)] at hu'
      obtain ⟨a, b⟩ := h3 n I u hI hu'
      exact key u I.tos a b
    · rw [List.getElem?_append_right (by omega)] at hI
      rw [List.getElem?_append_right (by omega), h1] at hu'
      obtain rfl : n = L.length := by
        have := (List.getElem?_eq_some_iff.1 hI).1
        simp at this; omega
      simp only [Nat.sub_self, List.getElem?_cons_zero, Option.some.injEq] at hI hu'
      subst hI; subst hu'
      exact key v i.tos hi hk
end Go.Proofs.Ytbpeoclhabgcgaa
