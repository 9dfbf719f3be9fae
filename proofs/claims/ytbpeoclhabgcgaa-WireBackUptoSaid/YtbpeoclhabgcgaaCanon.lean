import Derived.Test.YtbpeoclhabgcgaaParts
namespace Go.Proofs.Ytbpeoclhabgcgaa
open Go.RowKit
set_option linter.unusedVariables false
set_option linter.unusedSimpArgs false

theorem pow128_le {i j : Nat} (h : i ≤ j) : 128 ^ i ≤ 128 ^ j := Nat.pow_le_pow_right (by omega) h
/-- A number that is read is written as its bytes: from byte i on. -/
theorem numF_canon (b : List UInt8) : ∀ (k i a0 N s : Nat), i + k = 10 → a0 < 128 ^ i → numF b k i a0 = (N, s, 0) →
    ∃ m, (0 < m ∨ i = 0) ∧ N = a0 + m * 128 ^ i ∧ s = i + (encN m).length ∧ (b.drop i).take (encN m).length = encN m
  | 0, i, a0, N, s, hik, ha, h => by simp [numF] at h
  | k + 1, i, a0, N, s, hik, ha, h => by
    rw [numF] at h
    cases hc : b[i]? with
    | none => rw [hc] at h; simp at h
    | some c =>
      rw [hc] at h
      simp only at h
      have hcl : c.toNat < 256 := c.toNat_lt
      have hi : i < b.length := (List.getElem?_eq_some_iff.1 hc).1
      have hci : b[i] = c := (List.getElem?_eq_some_iff.1 hc).2
      have hdrop : b.drop i = c :: b.drop (i + 1) := by rw [List.drop_eq_getElem_cons hi, hci]
      have h9 : (128 : Nat) ^ 9 = 9223372036854775808 := by decide
      have hp : 128 ^ (i + 1) = 128 * 128 ^ i := by rw [Nat.pow_succ, Nat.mul_comm]
      by_cases h1 : 128 ≤ c.toNat
      · rw [if_pos h1] at h
        cases k with
        | zero => simp [numF] at h
        | succ k =>
          have hle := pow128_le (i := i + 1) (j := 9) (by omega)
          have hm : c.toNat % 128 * 128 ^ i ≤ 127 * 128 ^ i := Nat.mul_le_mul_right _ (by omega)
          have hacc : acc a0 i c.toNat = a0 + c.toNat % 128 * 128 ^ i := by
            unfold acc
            exact Nat.mod_eq_of_lt (by omega)
          rw [hacc] at h
          obtain ⟨m, g1, g2, g3, g4⟩ := numF_canon b (k + 1) (i + 1) _ N s (by omega) (by omega) h
          have hm0 : 0 < m := by omega
          refine ⟨c.toNat % 128 + 128 * m, .inl (by omega), ?_, ?_, ?_⟩
          · rw [g2, hp, Nat.add_mul, Nat.mul_assoc, Nat.mul_left_comm, ← Nat.mul_assoc]
            have : 128 * m * 128 ^ i = m * (128 * 128 ^ i) := by rw [Nat.mul_comm 128 m, Nat.mul_assoc]
            have h2 : m * 128 * 128 ^ i = m * (128 * 128 ^ i) := by rw [Nat.mul_assoc]
            omega
          · rw [encN_big (by omega), show (c.toNat % 128 + 128 * m) / 128 = m by omega, List.length_cons, g3]; omega
          · rw [encN_big (by omega), show (c.toNat % 128 + 128 * m) / 128 = m by omega, show (c.toNat % 128 + 128 * m) % 128 + 128 = c.toNat by omega, hdrop, List.length_cons, List.take_succ_cons, g4, UInt8.ofNat_toNat]
      · rw [if_neg h1] at h
        split at h
        · simp at h
        · rename_i h2
          simp only [Prod.mk.injEq, and_true] at h
          obtain ⟨rfl, rfl⟩ := h
          have e1 : encN c.toNat = [c] := by rw [encN_small (by omega), UInt8.ofNat_toNat]
          refine ⟨c.toNat, by omega, ?_, by rw [e1]; rfl, by rw [e1, hdrop]; rfl⟩
          unfold acc
          rw [Nat.mod_eq_of_lt (show c.toNat < 128 by omega)]
          refine Nat.mod_eq_of_lt ?_
          by_cases hi9 : i = 9
          · subst hi9
            have hc1 : c.toNat ≤ 1 := by omega
            have : c.toNat * 128 ^ 9 ≤ 1 * 128 ^ 9 := Nat.mul_le_mul_right _ hc1
            omega
          · have hle := pow128_le (i := i + 1) (j := 9) (by omega)
            have hm : c.toNat * 128 ^ i ≤ 127 * 128 ^ i := Nat.mul_le_mul_right _ (by omega)
            omega
theorem numR_canon {b : List UInt8} {N s : Nat} (h : numR b = (N, s, 0)) : b.take s = encN N := by
  obtain ⟨m, _, h2, h3, h4⟩ := numF_canon b 10 0 0 N s rfl (by simp) h
  simp only [Nat.pow_zero, Nat.mul_one, Nat.zero_add, List.drop_zero] at h2 h3 h4
  rw [h2, h3, h4]
theorem unzig_zig (n : Int) : unzig (zig n).toNat = n := by
  unfold unzig zig
  split <;> split <;> omega

def encP (x : PartV) : List UInt8 := encN x.n.toNat ++ (encN (zig (wrap64 x.n)).toNat ++ (encN x.text.size ++ x.text.data.toList))
def encAll (L : List PartV) : List UInt8 := L.flatMap encP
theorem encAll_succ (L : List PartV) (k : Nat) (h : k < L.length) : encAll (L.take (k + 1)) = encAll (L.take k) ++ encP L[k] := by
  unfold encAll
  rw [List.take_succ_eq_append_getElem h, List.flatMap_append]
  simp
theorem encAll_split (L : List PartV) (k : Nat) (h : k < L.length) : ∃ rest, encAll L = encAll (L.take k) ++ (encP L[k] ++ rest) := by
  refine ⟨encAll (L.drop (k + 1)), ?_⟩
  have e : L = L.take k ++ L[k] :: L.drop (k + 1) := by rw [← List.drop_eq_getElem_cons h, List.take_append_drop]
  unfold encAll
  conv => lhs; rw [e]
  rw [List.flatMap_append, List.flatMap_cons]
theorem encP_len (x : PartV) (h : x.ok) (ht : x.text.size ≤ 1048576) : (encP x).length ≤ 1048606 := by
  obtain ⟨_, _, _, _, hn, _⟩ := h
  have h1 := encN_u64 hn
  have hw : -9223372036854775808 ≤ wrap64 x.n ∧ wrap64 x.n ≤ 9223372036854775807 := by unfold wrap64; omega
  have h2 := encN_u64 (zig_u64 _ hw.1 hw.2)
  have e : x.text.data.toList.length = x.text.size := Array.length_toList
  have h3 := encN_u64 (n := (x.text.size : Int)) ⟨by omega, by omega⟩
  rw [show (x.text.size : Int).toNat = x.text.size by omega] at h3
  unfold encP
  simp only [List.length_append]
  omega
end Go.Proofs.Ytbpeoclhabgcgaa
