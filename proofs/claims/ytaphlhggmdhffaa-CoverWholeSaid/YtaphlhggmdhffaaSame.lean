import Derived.Test.YtaphlhggmdhffaaLists
import Derived.Lib.Strings
namespace Go.Proofs.Ytaphlhggmdhffaa
open Go.RowKit
set_option linter.unusedVariables false
set_option linter.unusedSimpArgs false
theorem SS.at {w : World} {b off : Nat} {L : Names} (hc : ∀ i (h : i < L.length), w.cell? ⟨b, off + i, none⟩ = some (.string L[i])) (q : Nat) (hq : q < L.length) : ∃ s, L[q]? = some s ∧ w.cell? ⟨b, off + q, none⟩ = some (.string s) :=
  ⟨L[q], List.getElem?_eq_getElem hq, hc q hq⟩
theorem same_step {A B : Names} {q : Nat} {s t : ByteArray} (h : A.take q = B.take q) (ha : A[q]? = some s) (hb : B[q]? = some t) (e : s = t) : A.take (q + 1) = B.take (q + 1) := by
  rw [List.take_add_one, List.take_add_one, h, ha, hb, e]
theorem tl_ne {s t : ByteArray} (e : ¬ s = t) : (s.toList == t.toList) = false := by
  apply Bool.eq_false_iff.2
  intro h
  have h' : s.toList = t.toList := by simpa using h
  rw [Lib.toList_data, Lib.toList_data] at h'
  apply e
  cases s; cases t
  simp only at h'
  rw [Array.toList_inj.1 h']
set_option maxHeartbeats 4000000 in
set_option maxRecDepth 100000 in
/-- hawserbook.Same of strings. -/
theorem same_any (u v : Value) (A B : Names) (w : World) (hA : SS w u A) (hB : SS w v B) :
    Calls Try.prog 10 #[u, v] w fun e w' => e = .returned (.bool (decide (A = B))) ∧ Upd (fun _ => False) w w' := by
  obtain ⟨ao, ca, rfl, _, _, hA⟩ := hA
  obtain ⟨bo, cb, rfl, _, _, hB⟩ := hB
  by_cases hl : A.length = B.length
  · have d1 : ((A.length : Int) == (B.length : Int)) = true := by simp; omega
    have HA := Lib.hid hA
    have HB := Lib.hid hB
    clear hA hB
    go_enter Try.func10, Try.ntmps10
    go_wp2_with fail
    go_loopw [5] (fun i wr => ∃ q : Nat, i = .int .i64 q ∧ q ≤ A.length ∧ A.take q = B.take q ∧ Upd (fun _ => False) w wr) (fun i _ => A.length - (intOf i).toNat)
    case atStart => exact ⟨0, rfl, Nat.zero_le _, rfl, Upd.refl _ _⟩
    case round =>
      obtain ⟨q, rfl, hq, hs, hu⟩ := hrel
      have HS := Lib.hid hs
      have HU := Lib.hid hu
      clear hs hu
      by_cases hlt : q < A.length
      · obtain ⟨ba, oa, rfl, hca⟩ : ∃ b off, ao = some ⟨b, off, none⟩ ∧ ∀ i (h : i < A.length), w.cell? ⟨b, off + i, none⟩ = some (.string A[i]) := by
          rcases HA.out with h | h
          · rw [h] at hlt; simp at hlt
          · exact h
        obtain ⟨bb, ob, rfl, hcb⟩ : ∃ b off, bo = some ⟨b, off, none⟩ ∧ ∀ i (h : i < B.length), w.cell? ⟨b, off + i, none⟩ = some (.string B[i]) := by
          rcases HB.out with h | h
          · rw [h] at hl; simp only [List.length_nil] at hl; omega
          · exact h
        obtain ⟨s, hs, c1⟩ := SS.at hca q hlt
        obtain ⟨t, ht, c2⟩ := SS.at hcb q (by omega)
        have c1 := HU.out.cell_some c1 (fun h => h)
        have c2 := HU.out.cell_some c2 (fun h => h)
        have HS1 := Lib.hid hs
        have HT1 := Lib.hid ht
        have f1 : (q : Int) < (A.length : Int) := by omega
        have f2 : (q : Int) < (B.length : Int) := by omega
        have f0 : (0 : Int) ≤ (q : Int) := by omega
        have f3 : decide (q < A.length) = true := by simp; omega
        have f4 : q + 1 ≤ A.length := by omega
        clear hca hcb hs ht hlt hq
        by_cases e : s = t
        · have HST := Lib.hid (same_step HS.out HS1.out HT1.out e)
          subst e
          go_wp2_with fail
          go_quiet (fail)
          go_wp2_with fail
          go_roundw
          case rel => exact ⟨q + 1, by go_num, f4, HST.out, HU.out.drewN _⟩
          case measure => simp [intOf]; omega
        · have e5 := tl_ne e
          have HNE := Lib.hid (show A ≠ B from fun h => e (by have := HS1.out; rw [h, HT1.out] at this; exact (Option.some.inj this).symm))
          go_wp2_with fail
          go_quiet (fail)
          go_wp2_with fail
          go_ret
          exact ⟨by simp [HNE.out], HU.out.drewN _⟩
      · have hqA : q = A.length := by omega
        have hAB : A = B := by
          have := HS.out
          rwa [hqA, List.take_length, hl, List.take_length] at this
        have f3 : decide (q < A.length) = false := by simp; omega
        have f1 : ¬ ((q : Int) < (A.length : Int)) := by omega
        clear hlt hq
        go_wp2_with fail
        go_ret
        exact ⟨by simp [hAB], HU.out⟩
  · have d1 : ((A.length : Int) == (B.length : Int)) = false := by simp; omega
    have hAB : A ≠ B := fun h => hl (by rw [h])
    go_enter Try.func10, Try.ntmps10
    go_wp2_with fail
    go_ret
    exact ⟨by simp [hAB], Upd.refl _ _⟩
end Go.Proofs.Ytaphlhggmdhffaa
