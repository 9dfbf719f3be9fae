import Derived.Test.YtbpeoclhabgcgaaLengths
namespace Go.Proofs.Ytbpeoclhabgcgaa
open Go.RowKit
set_option linter.unusedVariables false
set_option linter.unusedSimpArgs false

theorem toNat_small (m : Nat) (h : m < 256) : (UInt8.ofNat m).toNat = m := by simp [UInt8.toNat_ofNat']; omega

/-- What is written is read: from byte i on. -/
theorem numF_enc (b : List UInt8) (rest : List UInt8) : ∀ (m i acc0 k : Nat), b.drop i = encN m ++ rest → acc0 < 128 ^ i → acc0 + m * 128 ^ i < 18446744073709551616 → i + k = 10 → (0 < m ∨ i = 0) →
    numF b k i acc0 = (acc0 + m * 128 ^ i, i + (encN m).length, 0) := by
  intro m
  induction m using Nat.strongRecOn with
  | _ m ih =>
    intro i a0 k hd ha hlt hik hcan
    have hp : 1 ≤ 128 ^ i := Nat.pow_pos (by omega)
    have hi10 : i ≠ 10 := by
      rintro rfl
      rcases hcan with h | h
      · have : 1 * 128 ^ 10 ≤ m * 128 ^ 10 := Nat.mul_le_mul_right _ h
        have h2 : (128 : Nat) ^ 10 = 1180591620717411303424 := by decide
        omega
      · omega
    obtain ⟨k, rfl⟩ : ∃ k', k = k' + 1 := ⟨k - 1, by omega⟩
    have hget : ∀ c r, encN m = c :: r → b[i]? = some c := by
      intro c r he
      have := congrArg (fun l => l[0]?) hd
      rw [he] at this
      simpa [List.getElem?_drop] using this
    by_cases hm : m < 128
    · have he := encN_small hm
      rw [numF, hget _ _ he]
      simp only
      rw [toNat_small m (by omega), if_neg (by omega)]
      have h9 : ¬ ((i = 9 ∧ 1 < m) ∨ (0 < i ∧ m = 0)) := by
        rintro (⟨rfl, h1⟩ | ⟨h1, h2⟩)
        · have h3 : (128 : Nat) ^ 9 = 9223372036854775808 := by decide
          rw [h3] at hlt
          omega
        · omega
      rw [if_neg h9, he]
      unfold acc
      rw [Nat.mod_eq_of_lt hm, Nat.mod_eq_of_lt hlt]
      rfl
    · have he := encN_big hm
      have hc : (UInt8.ofNat (m % 128 + 128)).toNat = m % 128 + 128 := toNat_small _ (by omega)
      rw [numF, hget _ _ he]
      simp only
      rw [hc, if_pos (by omega)]
      have hsplit : m * 128 ^ i = m % 128 * 128 ^ i + m / 128 * 128 ^ (i + 1) := by
        rw [Nat.pow_succ, Nat.mul_comm (128 ^ i) 128, ← Nat.mul_assoc, ← Nat.add_mul]
        congr 1; omega
      have hacc : acc a0 i (m % 128 + 128) = a0 + m % 128 * 128 ^ i := by
        unfold acc
        rw [show (m % 128 + 128) % 128 = m % 128 by omega]
        refine Nat.mod_eq_of_lt ?_
        rw [hsplit] at hlt
        omega
      have hb : a0 + m % 128 * 128 ^ i < 128 ^ (i + 1) := by
        have : m % 128 * 128 ^ i ≤ 127 * 128 ^ i := Nat.mul_le_mul_right _ (by omega)
        rw [Nat.pow_succ]; omega
      rw [hacc, ih (m / 128) (by omega) (i + 1) _ k ?_ hb (by rw [hsplit] at hlt; omega) (by omega) (by omega), he, hsplit]
      · simp only [List.length_cons, Prod.mk.injEq]
        exact ⟨by omega, by omega, trivial⟩
      · rw [← List.drop_drop, hd, he]; rfl
theorem numR_enc (m : Nat) (rest : List UInt8) (h : m < 18446744073709551616) : numR (encN m ++ rest) = (m, (encN m).length, 0) := by
  have := numF_enc (encN m ++ rest) rest m 0 0 10 rfl (by simp) (by simpa using h) rfl (.inr rfl)
  simpa [numR] using this

theorem number_enc (n : Nat) (pre rest : List UInt8) (most : Int) (h : n < 18446744073709551616) :
    RS.number ⟨pre ++ (encN n ++ rest), pre.length, 0, 0⟩ most = if most < n then (⟨pre ++ (encN n ++ rest), pre.length, 3, pre.length⟩, 0) else (⟨pre ++ (encN n ++ rest), pre.length + (encN n).length, 0, 0⟩, n) := by
  unfold RS.number
  simp only [if_true, List.drop_left, numR_enc n rest h]
  rw [if_neg (by omega), if_neg (by simp)]
theorem strOf_self (s : ByteArray) : strOf s.data.toList = s := by unfold strOf; simp
theorem text_enc (s : ByteArray) (pre rest : List UInt8) (long : Int) (h : s.size < 18446744073709551616) :
    RS.text ⟨pre ++ (encN s.size ++ (s.data.toList ++ rest)), pre.length, 0, 0⟩ long =
      if max long 0 < s.size then (⟨pre ++ (encN s.size ++ (s.data.toList ++ rest)), pre.length, 3, pre.length⟩, [])
      else (⟨pre ++ (encN s.size ++ (s.data.toList ++ rest)), pre.length + (encN s.size).length + s.size, 0, 0⟩, s.data.toList) := by
  have hl : s.data.toList.length = s.size := Array.length_toList
  unfold RS.text
  rw [number_enc s.size pre _ _ h]
  by_cases hc : max long 0 < s.size
  · rw [if_pos hc, if_pos hc]; simp [RS.take, RS.took]
  · rw [if_neg hc, if_neg hc]
    have e1 : (pre ++ (encN s.size ++ (s.data.toList ++ rest))).length = pre.length + (encN s.size).length + s.size + rest.length := by simp [hl]; omega
    have e2 : (pre ++ (encN s.size ++ (s.data.toList ++ rest))).drop (pre.length + (encN s.size).length) = s.data.toList ++ rest := by
      rw [← List.append_assoc, ← List.length_append, List.drop_left]
    simp only [RS.take, RS.took, if_true]
    rw [if_neg (by rw [e1]; omega), if_pos ⟨trivial, by rw [e1]; omega⟩, e2]
    have e3 : (s.size : Int).toNat = s.size := by omega
    rw [e3, ← hl, List.take_left]
end Go.Proofs.Ytbpeoclhabgcgaa
