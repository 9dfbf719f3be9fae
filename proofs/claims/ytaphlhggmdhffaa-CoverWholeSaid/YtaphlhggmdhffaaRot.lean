import Derived.Test.YtaphlhggmdhffaaTells
import Derived.Laws.Slices
/-
  WORDS ON A LIST PUT TOGETHER ANEW OF TWO PARTS OF ANOTHER; plain laws: what lacks, is too much, or is there twice, whatever the order.
-/
namespace Go.Proofs.Ytaphlhggmdhffaa
open Go.RowKit
set_option linter.unusedVariables false
set_option linter.unusedSimpArgs false
/-- What is behind the first k. -/
theorem SS.from {w : World} {al : Option Addr} {cl k : Nat} {L : Names} (h : SS w (.slice al L.length cl) L) (hk : k ≤ L.length) : SS w (sliced al k L.length cl 1) (L.drop k) := by
  obtain ⟨a, c, hv, h1, h2, h⟩ := h
  simp only [Value.slice.injEq, true_and] at hv
  obtain ⟨rfl, rfl⟩ := hv
  unfold sliced
  refine ⟨_, cl - k, by rw [List.length_drop], by rw [List.length_drop]; omega, by omega, ?_⟩
  rcases h with rfl | ⟨b, off, rfl, hc⟩
  · left; simp
  · by_cases hkl : k = L.length
    · left; rw [hkl]; simp
    · right
      have hkc : ¬ cl = k := by omega
      have hadd : (⟨b, off, none⟩ : Addr).add (k * 1) = ⟨b, off + k, none⟩ := by unfold Addr.add; split <;> simp_all
      refine ⟨b, off + k, by rw [if_neg hkc, Option.map_some, hadd], fun i hi => ?_⟩
      rw [List.length_drop] at hi
      have := hc (k + i) (by omega)
      rw [List.getElem_drop, Nat.add_assoc]
      exact this
theorem SS.to {w : World} {al : Option Addr} {cl k : Nat} {L : Names} (h : SS w (.slice al L.length cl) L) (hk : k ≤ L.length) : SS w (sliced al 0 k cl 1) (L.take k) := by
  have hp := h.pre hk
  have : sliced al 0 k cl 1 = .slice al k cl := by
    unfold sliced
    have h0 : (0 : Nat) * 1 = 0 := rfl
    cases al with
    | none => simp
    | some a => simp [Addr.add]
  rw [this]; exact hp
theorem Src.ofSS {P : Program} {tx : TypeId} (hk : P.underlying tx = some (.slice 9)) {w : World} {v : Value} {L : Names} (h : SS w v L) : Src P 1 tx v L.length (strV L) w := by
  obtain ⟨ao, cap, rfl, _, _, h3⟩ := h
  have one : ∀ u ∈ strV L, u.oneCell' = true := by
    intro u hu
    obtain ⟨b, _, rfl⟩ := List.mem_map.1 hu
    rfl
  rcases h3 with rfl | ⟨b, off, rfl, hc⟩
  · cases ao with
    | none => exact Src.ofNil w hk cap
    | some a => exact Src.ofSlice w hk a _ _ _ rfl (fun j u hj => by simp [strV] at hj) (fun u hu => by simp [strV] at hu)
  · refine Src.ofSlice w hk ⟨b, off, none⟩ _ _ _ (by simp [strV]) (fun j u hj => ?_) one
    have hl : j < L.length := by
      have := (List.getElem?_eq_some_iff.1 hj).1
      simpa [strV] using this
    rw [strV_get L j hl] at hj
    have hadd : (⟨b, off, none⟩ : Addr).add j = ⟨b, off + j, none⟩ := by unfold Addr.add; split <;> simp_all
    rw [hadd, hc j hl]
    exact hj
/-- A slice that was made empty. -/
theorem own_empty (w : World) (base : Nat) (hb : base ≤ w.heap.size) : (w.alloc (.cells #[] 9)).ownsRow base 9 1 (.slice (some ⟨w.heap.size, 0, none⟩) 0 0) 0 [] :=
  ⟨rfl, .inr ⟨w.heap.size, 0, #[], rfl, hb, heap_alloc_new w _, Nat.le_refl _, by unfold maxLen; omega, rfl, rfl⟩⟩
/-! ### Plain laws -/
theorem missTo_mem {C A B : Names} (h : ∀ c, c ∈ A.map La ↔ c ∈ B.map La) (q : Nat) : missTo C A q = missTo C B q := by
  unfold missTo
  congr 1
  funext c
  rcases hb : inB c (B.map La) with _ | _
  · have : inB c (A.map La) = false := inB_not (fun hm => by have := inB_iff.2 ((h c).1 hm); rw [hb] at this; cases this)
    rw [this]
  · rw [inB_iff.2 ((h c).2 (inB_iff.1 hb))]
theorem extraTo_full (C L : Names) : extraTo C L L.length = L.filter (fun s => !inB (La s) C) := by
  unfold extraTo; rw [List.take_length]
theorem extra_rot (C L : Names) (k : Nat) : (extraTo C L L.length).length = (extraTo C (L.drop k ++ L.take k) (L.drop k ++ L.take k).length).length := by
  rw [extraTo_full, extraTo_full, List.filter_append, List.length_append]
  have : (L.filter (fun s => !inB (La s) C)) = (L.take k).filter (fun s => !inB (La s) C) ++ (L.drop k).filter (fun s => !inB (La s) C) := by
    rw [← List.filter_append, List.take_append_drop]
  rw [this, List.length_append]; omega
/-- Each once. -/
def ded : Names → Names
  | [] => []
  | a :: l => if inB a l then ded l else a :: ded l
theorem ded_mem {x : ByteArray} : ∀ {l : Names}, x ∈ ded l ↔ x ∈ l
  | [] => by simp [ded]
  | a :: l => by
    unfold ded
    split
    · rename_i h
      have h := inB_iff.1 h
      rw [ded_mem, List.mem_cons]
      constructor
      · exact .inr
      · rintro (rfl | h') <;> assumption
    · rw [List.mem_cons, List.mem_cons, ded_mem]
theorem ded_nodup : ∀ l : Names, (ded l).Nodup
  | [] => by simp [ded]
  | a :: l => by
    unfold ded
    split
    · exact ded_nodup l
    · rename_i h
      refine List.nodup_cons.2 ⟨fun hm => h (inB_iff.2 (ded_mem.1 hm)), ded_nodup l⟩
theorem len_le : ∀ {A B : Names}, A.Nodup → (∀ x ∈ A, x ∈ B) → A.length ≤ B.length
  | [], B, _, _ => by simp
  | a :: A, B, hn, hs => by
    have ha := hs a (by simp)
    obtain ⟨s, t, rfl⟩ := List.append_of_mem ha
    have hn' := List.nodup_cons.1 hn
    have := len_le (A := A) (B := s ++ t) hn'.2 (fun x hx => by
      have := hs x (by simp [hx])
      rw [List.mem_append, List.mem_cons] at this
      rw [List.mem_append]
      rcases this with h | rfl | h
      · exact .inl h
      · exact absurd hx hn'.1
      · exact .inr h)
    rw [List.length_append] at this ⊢
    simp only [List.length_cons]
    omega
theorem ded_len {A B : Names} (h : ∀ x, x ∈ A ↔ x ∈ B) : (ded A).length = (ded B).length :=
  Nat.le_antisymm (len_le (ded_nodup A) (fun x hx => ded_mem.2 ((h x).1 (ded_mem.1 hx)))) (len_le (ded_nodup B) (fun x hx => ded_mem.2 ((h x).2 (ded_mem.1 hx))))
theorem ded_snoc (l : Names) (y : ByteArray) : (ded (l ++ [y])).length = (ded l).length + (if inB y l then 0 else 1) := by
  rcases hb : inB y l with _ | _
  · have hy : y ∉ l := fun h => by have := inB_iff.2 h; rw [hb] at this; cases this
    have := ded_len (A := l ++ [y]) (B := y :: l) (fun x => by simp [or_comm])
    rw [this, ded, hb]
    simp
  · have hy := inB_iff.1 hb
    have := ded_len (A := l ++ [y]) (B := l) (fun x => by
      rw [List.mem_append, List.mem_singleton]
      exact ⟨fun h => h.elim id (fun e => e ▸ hy), .inl⟩)
    rw [this]; simp
theorem twice_ded (L : Names) : ∀ q, q ≤ L.length → (twiceTo L q).length + (ded ((L.take q).map La)).length = q
  | 0, _ => by simp [twiceTo, ded]
  | q + 1, h => by
    have ih := twice_ded L q (by omega)
    have hs : L[q]? = some L[q] := List.getElem?_eq_getElem (by omega)
    rw [casesS_step hs, ded_snoc]
    rcases hb : inB (La L[q]) ((L.take q).map La) with _ | _
    · rw [twice_no hs hb]; simp only [Bool.false_eq_true, if_false]; omega
    · rw [twice_yes hs hb, List.length_append]; simp only [if_true, List.length_singleton]; omega
theorem twice_len {A B : Names} (hl : A.length = B.length) (h : ∀ c, c ∈ A.map La ↔ c ∈ B.map La) : (twiceTo A A.length).length = (twiceTo B B.length).length := by
  have h1 := twice_ded A A.length (Nat.le_refl _)
  have h2 := twice_ded B B.length (Nat.le_refl _)
  rw [List.take_length] at h1 h2
  have := ded_len h
  omega
theorem rot_len (L : Names) {k : Nat} (hk : k ≤ L.length) : (L.drop k ++ L.take k).length = L.length := by simp; omega
theorem rot_mem (L : Names) (k : Nat) (c : ByteArray) : c ∈ L.map La ↔ c ∈ (L.drop k ++ L.take k).map La := by
  rw [List.map_append, List.mem_append, ← or_comm, ← List.mem_append, ← List.map_append, List.take_append_drop]
theorem Sz.rot {L : Names} (h : Sz L) (k : Nat) : Sz (L.drop k ++ L.take k) := fun s hs => by
  rcases List.mem_append.1 hs with hs | hs
  · exact h s (List.mem_of_mem_drop hs)
  · exact h s (List.mem_of_mem_take hs)
end Go.Proofs.Ytaphlhggmdhffaa
