import Derived.Test.YtaphlhggmdhffaaKnown
import Derived.SliceStrings
import Derived.SizedLaws
namespace Go.Proofs.Ytaphlhggmdhffaa
open Go.RowKit Go.ChangeShapes
set_option linter.unusedVariables false
set_option linter.unusedSimpArgs false
theorem weights_mem {H : Type} {P : Program} {e : TypeId} : ∀ {l : List (DataW H)} {d : DataW H}, d ∈ l → ∀ n ∈ d.weights P e, n ∈ DataW.weightsAll P e l
  | d' :: r, d, hd, n, hn => by
    simp only [DataW.weightsAll, List.mem_append]
    rcases List.mem_cons.1 hd with rfl | h
    · exact Or.inl hn
    · exact Or.inr (weights_mem h n hn)
section
variable {H : Type} {enc : TypeId × Value → H} {w : World} {base : Nat} {spare : Nat → Bool} {held : Bool}
/-- A slice of strings that came in. -/
theorem names_open {ts : List TypeId} {ds : List (DataW H)} (hsz : (DataW.weightsEach Try.prog ts ds).all (· ≤ reachBytes) = true) {j : Nat} {fuel : Nat} {ao : Option Addr} {len cap : Nat} {x : DataW H × List MemPlace}
    (ht : ts[j]? = some 24) (hd : ds[j]? = some x.1) (h : DataW.trod enc Try.prog w base spare held fuel 24 [.slice ao len cap] = some x) : ∃ L, L.length = len ∧ SS w (.slice ao len cap) L ∧ Sz L := by
  rcases open_strings Try.underlying24 Try.underlying9 (by kernel_rfl) h with ⟨hcs, hx⟩ | ⟨a, len', cap', ss, hcs, _, hl, hm, hz, hx, hcell, _⟩
  · simp only [List.cons.injEq, Value.slice.injEq, and_true] at hcs
    obtain ⟨rfl, rfl, rfl⟩ := hcs
    exact ⟨[], rfl, ⟨none, 0, rfl, Nat.le_refl _, by omega, .inl rfl⟩, fun s h => by simp at h⟩
  · simp only [List.cons.injEq, Value.slice.injEq, and_true] at hcs
    obtain ⟨rfl, rfl, rfl⟩ := hcs
    have hle : len ≤ ss.length := by rw [hz]; split <;> omega
    refine ⟨ss.take len, by simp; omega, ⟨some a, cap, by simp; omega, by simp; omega, by unfold maxLen at hm; omega, ?_⟩, ?_⟩
    · by_cases h0 : len = 0
      · left; rw [h0]; simp
      · right
        have h1 := hcell 0 (by omega)
        obtain ⟨b, off, sp⟩ := a
        have : (⟨b, off, sp⟩ : Addr).add 0 = ⟨b, off, sp⟩ := rfl
        rw [this] at h1
        obtain rfl := World.cell?_spot h1
        refine ⟨b, off, rfl, fun i hi => ?_⟩
        have hi' : i < ss.length := by simp at hi; omega
        have h2 := hcell i hi'
        have add0 : (⟨b, off, none⟩ : Addr).add i = ⟨b, off + i, none⟩ := by unfold Addr.add; split <;> simp_all
        rw [add0] at h2
        rw [h2]
        simp [List.getD, List.getElem?_eq_getElem hi']
    · intro s hs
      have hw : ∀ n ∈ x.1.weights Try.prog 24, n ≤ reachBytes := fun n hn => by
        have := List.all_eq_true.1 hsz _ (DataW.weights_mem_each ht hd n hn)
        simpa using this
      have := hw s.data.toList.length (by
        rw [hx]
        simp only [DataW.weights, Try.underlying24]
        refine List.mem_cons_of_mem _ (List.mem_append_left _ ?_)
        refine weights_mem (d := .lit (.string s.data.toList)) (List.mem_map.2 ⟨s, hs, rfl⟩) _ (by simp [DataW.weights]))
      simpa [reachBytes] using this
end
/-- A prefix. -/
theorem SS.pre {w : World} {ao : Option Addr} {n cap : Nat} {L : Names} (h : SS w (.slice ao L.length cap) L) (hn : n ≤ L.length) : SS w (.slice ao n cap) (L.take n) := by
  obtain ⟨a, c, hv, h1, h2, h⟩ := h
  simp only [Value.slice.injEq, true_and] at hv
  obtain ⟨rfl, rfl⟩ := hv
  have hl : (L.take n).length = n := by rw [List.length_take]; omega
  refine ⟨ao, cap, by rw [hl], by omega, h2, ?_⟩
  rcases h with rfl | ⟨b, off, rfl, hc⟩
  · left; simp
  · exact .inr ⟨b, off, rfl, fun i hi => by rw [hc i (by omega)]; simp⟩
theorem Sz.pre {L : Names} (h : Sz L) (n : Nat) : Sz (L.take n) := fun s hs => h s (List.mem_of_mem_take hs)
theorem Sz.cases {L : Names} (h : Sz L) : Sz (casesS L) := fun s hs => by
  obtain ⟨t, ht, rfl⟩ := List.mem_map.1 hs
  have := La_size t
  have := h t (List.mem_of_mem_take ht)
  omega
/-- What is behind the last dot has no dot. -/
theorem La_La (s : ByteArray) : La (La s) = La s := by
  have hno : ∀ j, j < (La s).size → (((La s).data[j]!).toNat : Int) ≠ 46 := by
    intro j hj
    have hsz : (La s).size = s.size - (Lib.lastIndexByte s 46 + 1).toNat := by unfold La; rw [ByteArray.size_extract]; omega
    have hget : (La s).data[j]! = s.data[(Lib.lastIndexByte s 46 + 1).toNat + j]! := by
      have h1 : (La s).data = s.data.extract (Lib.lastIndexByte s 46 + 1).toNat s.size := by unfold La; simp [ByteArray.data_extract]
      have h2 : (La s).data.size = (La s).size := rfl
      have h3 : s.data.size = s.size := rfl
      rw [getElem!_pos _ _ (by omega), getElem!_pos _ _ (by omega)]
      simp only [h1, Array.getElem_extract]
    rw [hget]
    rcases Lib.lastIndexByte_spec s 46 with ⟨h, hn⟩ | ⟨i, hi, h, _, hn⟩
    · exact hn _ (by rw [h] at hsz ⊢; omega)
    · exact hn _ (by rw [h]; omega) (by rw [h] at hsz ⊢; omega)
  have h0 : Lib.lastIndexByte (La s) 46 = -1 := by
    rcases Lib.lastIndexByte_spec (La s) 46 with ⟨h, hn⟩ | ⟨i, hi, h, hc, hn⟩
    · exact h
    · exact absurd hc (hno i hi)
  have : ∀ t : ByteArray, Lib.lastIndexByte t 46 = -1 → La t = t := by
    intro t ht
    unfold La
    rw [ht]
    simp
  exact this _ h0
theorem La_cases {L : Names} {c : ByteArray} (h : c ∈ casesS L) : La c = c := by
  obtain ⟨t, _, rfl⟩ := List.mem_map.1 h
  exact La_La t
theorem ol_self (s : ByteArray) (he : La s = s) (hs : s.size ≤ 140737488351232) (w : World) :
    Calls Try.prog 14 #[.string s] w fun e w' => e = .returned (.string s) ∧ w' = w := by
  have := ol_any s hs w
  rwa [he] at this
theorem casesS_len (L : Names) : (casesS L).length ≤ 10 := by unfold casesS; simp; omega
end Go.Proofs.Ytaphlhggmdhffaa
