import Derived.Laws.FloatArith
import Derived.Laws.BitsAllLaws
/-
  WHOLE NUMBERS AS FLOATS, IN PLAIN LEAN: how they stand to 1 and to 2^20; that cutting their fraction off changes nothing.
-/
namespace Go.Proofs.Ytbpeoclhabgcgaa
set_option linter.unusedVariables false
open Ieee
/-- A whole number as a float's bits. -/
def fl (n : Int) : Nat := floatOfInt .f64 n
/-- The rung of a positive whole number. -/
def kept (m : Nat) : Nat := Toward.even.cut false (m <<< (52 - m.log2)) (m.log2 - 52)
def rung (m : Nat) : Nat := (m.log2 + 1022) * 4503599627370496 + kept m
theorem rung_eq (m : Nat) : rung m = (m.log2 + 1022) * 4503599627370496 + kept m := by delta rung; rfl
theorem cut_neg (n : Bool) (a b : Nat) : Toward.even.cut n a b = Toward.even.cut false a b := rfl
theorem cut_zero (a : Nat) : Toward.even.cut false a 0 = a := by
  unfold Toward.cut
  simp [Nat.mod_one]
theorem log2_pow {m : Nat} (h : 0 < m) : 2 ^ m.log2 ≤ m ∧ m < 2 ^ (m.log2 + 1) := ⟨Nat.log2_self_le (by omega), Nat.lt_log2_self⟩
theorem log2_63 {m : Nat} (h : 0 < m) (hm : m ≤ 9223372036854775808) : m.log2 ≤ 63 := by
  have := (log2_pow h).1
  rcases Nat.lt_or_ge 63 m.log2 with h2 | h2
  · have : 2 ^ 64 ≤ 2 ^ m.log2 := Nat.pow_le_pow_right (by omega) (by omega)
    omega
  · exact h2
theorem kept_small {m : Nat} (h : 0 < m) (he : m.log2 ≤ 52) : kept m = m * 2 ^ (52 - m.log2) := by
  unfold kept
  rw [show m.log2 - 52 = 0 by omega, cut_zero, Nat.shiftLeft_eq]
theorem kept_range {m : Nat} (h : 0 < m) : 4503599627370496 ≤ kept m ∧ kept m ≤ 9007199254740992 := by
  have hl := log2_pow h
  by_cases he : m.log2 ≤ 52
  · rw [kept_small h he]
    have e1 : 2 ^ m.log2 * 2 ^ (52 - m.log2) = 4503599627370496 := by rw [← Nat.pow_add, show m.log2 + (52 - m.log2) = 52 by omega]
    have e2 : 2 ^ (m.log2 + 1) * 2 ^ (52 - m.log2) = 9007199254740992 := by rw [← Nat.pow_add, show m.log2 + 1 + (52 - m.log2) = 53 by omega]
    constructor
    · rw [← e1]; exact Nat.mul_le_mul_right _ hl.1
    · rw [← e2]; exact Nat.mul_le_mul_right _ (Nat.le_of_lt hl.2)
  · unfold kept
    rw [show 52 - m.log2 = 0 by omega, Nat.shiftLeft_zero]
    have hlow : 4503599627370496 ≤ m / 2 ^ (m.log2 - 52) ∧ m / 2 ^ (m.log2 - 52) < 9007199254740992 := by
      have hp : 0 < 2 ^ (m.log2 - 52) := Nat.two_pow_pos _
      have e1 : 4503599627370496 * 2 ^ (m.log2 - 52) = 2 ^ m.log2 := by
        rw [show (4503599627370496 : Nat) = 2 ^ 52 by rfl, ← Nat.pow_add, show 52 + (m.log2 - 52) = m.log2 by omega]
      have e2 : 9007199254740992 * 2 ^ (m.log2 - 52) = 2 ^ (m.log2 + 1) := by
        rw [show (9007199254740992 : Nat) = 2 ^ 53 by rfl, ← Nat.pow_add, show 53 + (m.log2 - 52) = m.log2 + 1 by omega]
      constructor
      · rw [Nat.le_div_iff_mul_le hp, e1]; exact hl.1
      · rw [Nat.div_lt_iff_lt_mul hp, e2]; exact hl.2
    have hg : (1 <<< min (m.log2 - 52) (m.log2 + 2)) = 2 ^ (m.log2 - 52) := by
      rw [Nat.min_eq_left (by omega), Nat.shiftLeft_eq, Nat.one_mul]
    have hc : ∀ b : Bool, 4503599627370496 ≤ m / 2 ^ (m.log2 - 52) + b.toNat ∧ m / 2 ^ (m.log2 - 52) + b.toNat ≤ 9007199254740992 := by
      intro b; cases b <;> simp <;> omega
    unfold Toward.cut
    simp only [hg]
    exact hc _
theorem rung_range {m : Nat} (h : 0 < m) (hm : m ≤ 9223372036854775808) : (m.log2 + 1023) * 4503599627370496 ≤ rung m ∧ rung m ≤ (m.log2 + 1024) * 4503599627370496 ∧ rung m < 9218868437227405312 := by
  have := kept_range h
  have h63 := log2_63 h hm
  have he := rung_eq m
  rw [he]
  generalize m.log2 = e at *
  generalize kept m = k at *
  clear he hm h
  refine ⟨?_, ?_, ?_⟩
  · rw [show e + 1023 = e + 1022 + 1 by omega, Nat.add_mul (e + 1022) 1]
    exact Nat.add_le_add_left this.1 _
  · rw [show e + 1024 = e + 1022 + 2 by omega, Nat.add_mul (e + 1022) 2]
    exact Nat.add_le_add_left this.2 _
  · have : (e + 1022) * 4503599627370496 ≤ 1085 * 4503599627370496 := Nat.mul_le_mul_right _ (by omega)
    omega
/-- What the bits are. -/
theorem fl_pos {n : Int} (h : n ≠ 0) (hm : n.natAbs ≤ 9223372036854775808) : fl n = (if n < 0 then 9223372036854775808 else 0) + rung n.natAbs := by
  have h0 : 0 < n.natAbs := by omega
  have hr := rung_range h0 hm
  have e63 := log2_63 h0 hm
  show Format.nearest double (decide (n < 0)) n.natAbs 0 = _
  unfold Format.nearest
  rw [if_neg (by omega)]
  have hlast : max ((0 : Int) + (n.natAbs.log2 : Int) - (double.fractionBits : Int)) double.leastPlace = (n.natAbs.log2 : Int) - 52 := by
    have h1 : double.leastPlace = -1074 := by decide
    have h2 : (double.fractionBits : Int) = 52 := rfl
    rw [h1, h2]; omega
  dsimp only
  rw [hlast]
  have h1 : double.leastPlace = -1074 := by decide
  have h2 : ((0 : Int) - ((n.natAbs.log2 : Int) - 52)).toNat = 52 - n.natAbs.log2 := by omega
  have h3 : ((n.natAbs.log2 : Int) - 52 - 0).toNat = n.natAbs.log2 - 52 := by omega
  have h4 : ((n.natAbs.log2 : Int) - 52 - double.leastPlace).toNat = n.natAbs.log2 + 1022 := by rw [h1]; omega
  have h5 : double.binade = 4503599627370496 := by decide
  have h6 : double.infRung = 9218868437227405312 := by decide
  have h7 : double.signWeight = 9223372036854775808 := by decide
  rw [h2, h3, h4, h5, h6, cut_neg]
  have h8 : min ((n.natAbs.log2 + 1022) * 4503599627370496 + Toward.even.cut false (n.natAbs <<< (52 - n.natAbs.log2)) (n.natAbs.log2 - 52)) 9218868437227405312 = rung n.natAbs := Nat.min_eq_left (Nat.le_of_lt hr.2.2)
  rw [h8]
  unfold Format.word
  rw [h7]
  by_cases hn : n < 0
  · simp [hn]
  · simp [hn]
theorem fl_zero : fl 0 = 0 := by decide
theorem fl_lt (n : Int) (hm : n.natAbs ≤ 9223372036854775808) : fl n < 18446744073709551616 := by
  by_cases h : n = 0
  · rw [h, fl_zero]; omega
  · rw [fl_pos h hm]
    have := (rung_range (m := n.natAbs) (by omega) hm).2.2
    split <;> omega
/-- The magnitude's bits. -/
def mg (n : Int) : Nat := if n = 0 then 0 else rung n.natAbs
theorem fl_mod (n : Int) (hm : n.natAbs ≤ 9223372036854775808) : fl n % 9223372036854775808 = mg n := by
  unfold mg
  by_cases h : n = 0
  · rw [if_pos h, h, fl_zero]
  · rw [if_neg h, fl_pos h hm]
    have := (rung_range (m := n.natAbs) (by omega) hm).2.2
    split <;> omega
/-- A normal positive float, read. -/
theorem read_normal {r : Nat} (h1 : 4503599627370496 ≤ r) (h2 : r < 9218868437227405312) : double.read r = .number false (4503599627370496 + r % 4503599627370496) (-1074 + ((r / 4503599627370496 - 1 : Nat) : Int)) := by
  have e1 : double.leastPlace = -1074 := by decide
  have e5 : double.binade = 4503599627370496 := by decide
  have e6 : double.infRung = 9218868437227405312 := by decide
  have e7 : double.signWeight = 9223372036854775808 := by decide
  unfold Format.read
  simp only [e1, e5, e6, e7]
  have hm : r % 9223372036854775808 = r := Nat.mod_eq_of_lt (by omega)
  have hd : r / 9223372036854775808 = 0 := Nat.div_eq_of_lt (by omega)
  rw [hm, hd, if_neg (by omega), if_pos h2]
  rfl
theorem cmp_lt {a b : Int} (h : a < b) : compare a b = .lt := by simp [compare, compareOfLessAndEq, h]
theorem cmp_gt {a b : Int} (h : b < a) : compare a b = .gt := by
  simp only [compare, compareOfLessAndEq]
  rw [if_neg (by omega), if_neg (by omega)]
theorem cmp_eq {a b : Int} (h : a = b) : compare a b = .eq := by
  simp only [compare, compareOfLessAndEq]
  rw [if_neg (by omega), if_pos h]
/-- Two normal positive floats stand to one another as their bits. -/
theorem order_normal {r s : Nat} (h1 : 4503599627370496 ≤ r) (h2 : r < 9218868437227405312) (h3 : 4503599627370496 ≤ s) (h4 : s < 9218868437227405312) :
    double.order r s = some (compare (r : Int) (s : Int)) := by
  unfold Format.order
  rw [read_normal h1 h2, read_normal h3 h4]
  simp only [Datum.order, Option.some.injEq]
  obtain ⟨q, t, hq, ht, hr⟩ : ∃ q t, 1 ≤ q ∧ t < 4503599627370496 ∧ r = q * 4503599627370496 + t := ⟨r / 4503599627370496, r % 4503599627370496, by omega, by omega, by omega⟩
  obtain ⟨q', t', hq', ht', hs⟩ : ∃ q t, 1 ≤ q ∧ t < 4503599627370496 ∧ s = q * 4503599627370496 + t := ⟨s / 4503599627370496, s % 4503599627370496, by omega, by omega, by omega⟩
  have a1 : r / 4503599627370496 = q := by omega
  have a2 : r % 4503599627370496 = t := by omega
  have b1 : s / 4503599627370496 = q' := by omega
  have b2 : s % 4503599627370496 = t' := by omega
  rw [a1, a2, b1, b2]
  unfold signed
  simp only [Bool.false_eq_true, if_false]
  have key : ∀ A B x y : Nat, A < 9007199254740992 → 4503599627370496 ≤ B → x < y → A <<< 0 < B <<< (y - x) := by
    intro A B x y hA hB hxy
    rw [Nat.shiftLeft_zero, Nat.shiftLeft_eq]
    have : 2 ^ 1 ≤ 2 ^ (y - x) := Nat.pow_le_pow_right (by omega) (by omega)
    have := Nat.mul_le_mul hB this
    omega
  rcases Nat.lt_trichotomy q q' with h | h | h
  · have m1 : min (-1074 + ((q - 1 : Nat) : Int)) (-1074 + ((q' - 1 : Nat) : Int)) = -1074 + ((q - 1 : Nat) : Int) := by omega
    rw [m1]
    have z1 : (-1074 + ((q - 1 : Nat) : Int) - (-1074 + ((q - 1 : Nat) : Int))).toNat = 0 := by omega
    have z2 : (-1074 + ((q' - 1 : Nat) : Int) - (-1074 + ((q - 1 : Nat) : Int))).toNat = (q' - 1) - (q - 1) := by omega
    rw [z1, z2]
    have := key (4503599627370496 + t) (4503599627370496 + t') (q - 1) (q' - 1) (by omega) (by omega) (by omega)
    rw [cmp_lt (by omega), cmp_lt (by rw [hr, hs]; have := Nat.mul_le_mul_right 4503599627370496 h; omega)]
  · subst h
    have m1 : min (-1074 + ((q - 1 : Nat) : Int)) (-1074 + ((q - 1 : Nat) : Int)) = -1074 + ((q - 1 : Nat) : Int) := by omega
    rw [m1]
    have z1 : (-1074 + ((q - 1 : Nat) : Int) - (-1074 + ((q - 1 : Nat) : Int))).toNat = 0 := by omega
    rw [z1, Nat.shiftLeft_zero, Nat.shiftLeft_zero]
    rcases Nat.lt_trichotomy t t' with h | h | h
    · rw [cmp_lt (by omega), cmp_lt (by omega)]
    · rw [cmp_eq (by omega), cmp_eq (by omega)]
    · rw [cmp_gt (by omega), cmp_gt (by omega)]
  · have m1 : min (-1074 + ((q - 1 : Nat) : Int)) (-1074 + ((q' - 1 : Nat) : Int)) = -1074 + ((q' - 1 : Nat) : Int) := by omega
    rw [m1]
    have z1 : (-1074 + ((q' - 1 : Nat) : Int) - (-1074 + ((q' - 1 : Nat) : Int))).toNat = 0 := by omega
    have z2 : (-1074 + ((q - 1 : Nat) : Int) - (-1074 + ((q' - 1 : Nat) : Int))).toNat = (q - 1) - (q' - 1) := by omega
    rw [z1, z2]
    have := key (4503599627370496 + t') (4503599627370496 + t) (q' - 1) (q - 1) (by omega) (by omega) (by omega)
    rw [cmp_gt (by omega), cmp_gt (by rw [hr, hs]; have := Nat.mul_le_mul_right 4503599627370496 h; omega)]
/-- Right parts: at most 2^20. -/
def fits (n : Int) : Bool := decide (-1048576 ≤ n ∧ n ≤ 1048576)
theorem rung_2_20 {m : Nat} (h : 0 < m) (hm : m ≤ 9223372036854775808) : rung m ≤ 4697254411347427328 ↔ m ≤ 1048576 := by
  have hr := rung_range h hm
  have hl := log2_pow h
  rcases Nat.lt_trichotomy m.log2 20 with he | he | he
  · have h1 : m < 2 ^ 20 := Nat.lt_of_lt_of_le hl.2 (Nat.pow_le_pow_right (by omega) (by omega))
    have hk := kept_small h (by omega)
    have e2 : 2 ^ (m.log2 + 1) * 2 ^ (52 - m.log2) = 9007199254740992 := by rw [← Nat.pow_add, show m.log2 + 1 + (52 - m.log2) = 53 by omega]
    have : kept m < 9007199254740992 := by rw [hk, ← e2]; exact Nat.mul_lt_mul_of_pos_right hl.2 (Nat.two_pow_pos _)
    have hre := rung_eq m
    omega
  · have hk := kept_small h (by omega)
    rw [he] at hk
    have hre := rung_eq m
    rw [hk, he] at hre
    omega
  · have h1 : 2 ^ 21 ≤ m := Nat.le_trans (Nat.pow_le_pow_right (by omega) (by omega)) hl.1
    omega
theorem leq_20 (n : Int) (hm : n.natAbs ≤ 9223372036854775808) : (double.order (mg n) 4697254411347427328 == some .lt || double.order (mg n) 4697254411347427328 == some .eq) = fits n := by
  unfold mg fits
  by_cases h : n = 0
  · subst h; decide
  · rw [if_neg h]
    have h0 : 0 < n.natAbs := by omega
    have hr := rung_range h0 hm
    rw [order_normal (by omega) hr.2.2 (by omega) (by omega)]
    have hk := rung_2_20 h0 hm
    by_cases hn : n.natAbs ≤ 1048576
    · have hle := hk.2 hn
      rcases Nat.lt_or_eq_of_le hle with hlt | heq
      · rw [cmp_lt (by omega)]
        have : (-1048576 ≤ n ∧ n ≤ 1048576) := by omega
        simp [this]
      · rw [cmp_eq (by omega)]
        have : (-1048576 ≤ n ∧ n ≤ 1048576) := by omega
        simp [this]
    · have : ¬ rung n.natAbs ≤ 4697254411347427328 := fun hh => hn (hk.1 hh)
      rw [cmp_gt (by omega)]
      have : ¬ (-1048576 ≤ n ∧ n ≤ 1048576) := by omega
      simp [this]
theorem lss_1 (n : Int) (h : n ≠ 0) (hm : n.natAbs ≤ 9223372036854775808) : (double.order (mg n) 4607182418800017408 == some .lt) = false := by
  unfold mg
  rw [if_neg h]
  have h0 : 0 < n.natAbs := by omega
  have hr := rung_range h0 hm
  rw [order_normal (by omega) hr.2.2 (by omega) (by omega)]
  rcases Nat.lt_or_eq_of_le (show 4607182418800017408 ≤ rung n.natAbs by omega) with hlt | heq
  · rw [cmp_gt (by omega)]; rfl
  · rw [cmp_eq (by omega)]; rfl
/-- No NaN: a whole number is itself. -/
theorem order_self (n : Int) (hm : n.natAbs ≤ 9223372036854775808) : double.order (fl n) (fl n) = some .eq := by
  have key : ∀ d : Datum, d.isNaN = false → Datum.order d d = some .eq := by
    intro d hd
    cases d with
    | number s m i => simp only [Datum.order]; rw [cmp_eq rfl]
    | infinity s => simp only [Datum.order]; cases s <;> rfl
    | nan s f => cases hd
  unfold Format.order
  refine key _ ?_
  have e1 : double.leastPlace = -1074 := by decide
  have e5 : double.binade = 4503599627370496 := by decide
  have e6 : double.infRung = 9218868437227405312 := by decide
  have e7 : double.signWeight = 9223372036854775808 := by decide
  have hmod := fl_mod n hm
  unfold Format.read
  simp only [e1, e5, e6, e7]
  rw [hmod]
  unfold mg
  by_cases h : n = 0
  · rw [if_pos h]; rfl
  · rw [if_neg h]
    have hr := rung_range (m := n.natAbs) (by omega) hm
    rw [if_neg (by omega), if_pos hr.2.2]
    rfl
end Go.Proofs.Ytbpeoclhabgcgaa
