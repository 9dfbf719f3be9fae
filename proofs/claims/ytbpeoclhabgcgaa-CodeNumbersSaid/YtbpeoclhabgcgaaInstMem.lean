import Derived.Test.YtbpeoclhabgcgaaCodeRun
/-
  WORDS ON LISTS OF INSTRUCTIONS IN MEMORY: slices of integers and of instructions that can be read; Same of integers.
-/
namespace Go.Proofs.Ytbpeoclhabgcgaa
open Go.RowKit
set_option linter.unusedVariables false
set_option linter.unusedSimpArgs false
/-- A slice of integers that can be read. -/
def Ints (w : World) (v : Value) (l : List Int) : Prop :=
  ∃ ao cap, v = .slice ao l.length cap ∧ l.length ≤ cap ∧ cap ≤ maxLen ∧ (l = [] ∨ ∃ b off, ao = some ⟨b, off, none⟩ ∧ ∀ i (h : i < l.length), w.cell? ⟨b, off + i, none⟩ = some (.int .i64 l[i]))
theorem Ints.upd {S : Nat → Prop} {w w' : World} {v : Value} {l : List Int} (h : Ints w v l) (hu : Upd S w w') (hn : ∀ k, v.ownBlock = some k → ¬ S k) : Ints w' v l := by
  obtain ⟨ao, cap, rfl, h1, h2, h3⟩ := h
  refine ⟨ao, cap, rfl, h1, h2, ?_⟩
  rcases h3 with h3 | ⟨b, off, rfl, hc⟩
  · exact .inl h3
  · exact .inr ⟨b, off, rfl, fun i hi => hu.cell_some (hc i hi) (hn b rfl)⟩
theorem Ints_own {w : World} {base : Nat} {v : Value} {l : List Int} (h : w.ownsRow base 3 1 v l.length (intsV l)) : Ints w v l := by
  obtain ⟨ao, cap, rfl, h1, h2, h3⟩ := own_form h
  refine ⟨ao, cap, rfl, h1, h2, ?_⟩
  by_cases h0 : l = []
  · exact .inl h0
  · obtain ⟨g, rfl⟩ := h3 (List.length_pos_iff.2 h0)
    exact .inr ⟨g, 0, rfl, fun i hi => by rw [Nat.zero_add]; exact own_int h i hi⟩
set_option maxHeartbeats 1000000 in
set_option maxRecDepth 100000 in
/-- hawserbook.Same of integers. -/
theorem sameI_eq (u v : Value) (l : List Int) (w : World) (hu : Ints w u l) (hv : Ints w v l) :
    Calls Try.prog 50 #[u, v] w fun e w' => e = .returned (.bool true) ∧ ∃ n, w' = w.drewN n := by
  obtain ⟨ao, cap, rfl, _, hm, h1⟩ := hu
  obtain ⟨ao', cap', rfl, _, _, h2⟩ := hv
  have hl : l.length ≤ 9223372036854775807 := by unfold maxLen at hm; omega
  have H1 := Lib.hid h1
  have H2 := Lib.hid h2
  clear h1 h2 hm
  go_enter Try.func50, Try.ntmps50
  go_wp2
  go_loopw [5] (fun i wr => ∃ k : Nat, i = .int .i64 k ∧ k ≤ l.length ∧ ∃ n, wr = w.drewN n) (fun i _ => l.length - (intOf i).toNat)
  case atStart => exact ⟨0, rfl, Nat.zero_le _, 0, rfl⟩
  case round =>
    obtain ⟨k, rfl, hk, n, rfl⟩ := hrel
    by_cases hlt : k < l.length
    · have hne : ¬ l = [] := by intro e; rw [e] at hlt; simp at hlt
      obtain ⟨b, off, rfl, c1⟩ := H1.out.resolve_left hne
      obtain ⟨b', off', rfl, c2⟩ := H2.out.resolve_left hne
      have d1 := c1 k hlt
      have d2 := c2 k hlt
      generalize l[k] = c at *
      have i0 : (0 : Int) ≤ (k : Int) := by omega
      have i1 : (k : Int) < (l.length : Int) := by omega
      clear c1 c2 hne
      go_wp2
      go_quiet (fail)
      go_wp2
      go_roundw
      case rel => exact ⟨k + 1, by go_num, by omega, _, rfl⟩
      case measure => simp [intOf]; omega
    · go_wp2
      go_ret
      exact ⟨rfl, _, rfl⟩
/-- A slice of instructions that can be read. -/
def IL (w : World) (V : Value) (L : List IV) : Prop :=
  ∃ ao cap, V = .slice ao L.length cap ∧ L.length ≤ cap ∧ cap ≤ maxLen ∧
    (L = [] ∨ ∃ b off, ao = some ⟨b, off, none⟩ ∧ ∀ i (h : i < L.length), ∃ vt, w.rangeAt b (off + i * 7) (L[i].cells vt) ∧ Ints w vt L[i].tos)
theorem IL.upd {w w' : World} {V : Value} {L : List IV} (h : IL w V L) (hu : Upd (fun _ => False) w w') : IL w' V L := by
  obtain ⟨ao, cap, rfl, h1, h2, h3⟩ := h
  refine ⟨ao, cap, rfl, h1, h2, ?_⟩
  rcases h3 with h3 | ⟨b, off, rfl, hc⟩
  · exact .inl h3
  · refine .inr ⟨b, off, rfl, fun i hi => ?_⟩
    obtain ⟨vt, hr, ht⟩ := hc i hi
    exact ⟨vt, fun j v hv => hu.cell_some (hr j v hv) (fun h => h), ht.upd hu (fun _ _ h => h)⟩
end Go.Proofs.Ytbpeoclhabgcgaa
