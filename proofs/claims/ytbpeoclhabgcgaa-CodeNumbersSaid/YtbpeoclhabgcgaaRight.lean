import Derived.Test.YtbpeoclhabgcgaaBook
import Derived.Test.YtbpeoclhabgcgaaFlo
import Derived.WalkLawsBesides
import Derived.WalkMore
import Derived.Laws.Externs
namespace Go.Proofs.Ytbpeoclhabgcgaa
open Go.RowKit
set_option linter.unusedVariables false
set_option linter.unusedSimpArgs false
theorem bits_call (b : Nat) (w : World) : (callFunc 81 #[.float .f64 b]).run Try.prog w = .ok (.value (.int .u64 b)) w := by
  rw [run_callFunc_extern Try.func81 (by kernel_rfl) (by kernel_rfl) (by kernel_rfl) (e := Extern.MathFloatBits.float64bits) (by kernel_rfl)]
  rfl
theorem from_call (n : Int) (w : World) : (callFunc 80 #[.int .u64 n]).run Try.prog w = .ok (.value (.float .f64 n.toNat)) w := by
  rw [run_callFunc_extern Try.func80 (by kernel_rfl) (by kernel_rfl) (by kernel_rfl) (e := Extern.MathFloatBits.float64frombits) (by kernel_rfl)]
  rfl
theorem and_mod (b : Nat) (hb : b < 18446744073709551616) : bits .andNot .u64 (b : Int) 9223372036854775808 = ((b % 9223372036854775808 : Nat) : Int) := by
  have := u64_andNot_nat b 9223372036854775808 hb (by omega)
  have e : (9223372036854775808 : Int) = ((9223372036854775808 : Nat) : Int) := rfl
  rw [e, this]
  congr 1
  exact Nat.and_two_pow_sub_one_eq_mod b 63
set_option maxHeartbeats 1000000 in
set_option maxRecDepth 100000 in
theorem abs_any (b : Nat) (hb : b < 18446744073709551616) (w : World) :
    Calls Try.prog 77 #[.float .f64 b] w fun e w' => e = .returned (.float .f64 (b % 9223372036854775808)) ∧ w' = w := by
  have HA := and_mod b hb
  have h1 := bits_call
  have h2 := from_call
  go_enter Try.func77, Try.ntmps77
  go_wp2_with fail
  go_ret
  exact ⟨rfl, rfl⟩
theorem log2_20 {m : Nat} (h : 0 < m) (hm : m ≤ 1048576) : m.log2 ≤ 20 := by
  have := (log2_pow h).1
  rcases Nat.lt_or_ge 20 m.log2 with h2 | h2
  · have : 2 ^ 21 ≤ 2 ^ m.log2 := Nat.pow_le_pow_right (by omega) (by omega)
    omega
  · exact h2
open Ieee in
/-- A whole number that is not nought, read. -/
theorem read_fl {n : Int} (hn : n ≠ 0) (hm : n.natAbs ≤ 9223372036854775808) : double.read (fl n) = .number (decide (n < 0)) (4503599627370496 + rung n.natAbs % 4503599627370496) (-1074 + ((rung n.natAbs / 4503599627370496 - 1 : Nat) : Int)) := by
  have e1 : double.leastPlace = -1074 := by decide
  have e5 : double.binade = 4503599627370496 := by decide
  have e6 : double.infRung = 9218868437227405312 := by decide
  have e7 : double.signWeight = 9223372036854775808 := by decide
  have hr := rung_range (m := n.natAbs) (by omega) hm
  have hmod := fl_mod n hm
  unfold mg at hmod
  rw [if_neg hn] at hmod
  have hd : (fl n / 9223372036854775808 % 2 == 1) = decide (n < 0) := by
    rw [fl_pos hn hm]
    by_cases h : n < 0
    · rw [if_pos h]
      have : (9223372036854775808 + rung n.natAbs) / 9223372036854775808 = 1 := by omega
      rw [this]; simp [h]
    · rw [if_neg h]
      have : (0 + rung n.natAbs) / 9223372036854775808 = 0 := by omega
      rw [this]; simp [h]
  unfold Format.read
  simp only [e1, e5, e6, e7]
  rw [hmod, hd, if_neg (by omega), if_pos hr.2.2]
open Ieee in
theorem integral_small {n : Int} (hs : n.natAbs ≤ 1048576) : double.write ((double.read (fl n)).integral .zero) = fl n := by
  by_cases hn : n = 0
  · subst hn; rw [fl_zero]; decide
  · have h0 : 0 < n.natAbs := by omega
    have he := log2_20 h0 hs
    have hl := log2_pow h0
    have hk := kept_small h0 (by omega)
    have hkr := kept_range h0
    have e2 : 2 ^ (n.natAbs.log2 + 1) * 2 ^ (52 - n.natAbs.log2) = 9007199254740992 := by rw [← Nat.pow_add, show n.natAbs.log2 + 1 + (52 - n.natAbs.log2) = 53 by omega]
    have hk2 : kept n.natAbs < 9007199254740992 := by rw [hk, ← e2]; exact Nat.mul_lt_mul_of_pos_right hl.2 (Nat.two_pow_pos _)
    rw [read_fl hn (by omega)]
    have hre := rung_eq n.natAbs
    have hq : rung n.natAbs / 4503599627370496 = n.natAbs.log2 + 1023 := by rw [hre]; generalize n.natAbs.log2 = e at *; omega
    have hmo : 4503599627370496 + rung n.natAbs % 4503599627370496 = n.natAbs * 2 ^ (52 - n.natAbs.log2) := by
      rw [← hk, hre]; generalize n.natAbs.log2 = e at *; omega
    rw [hq, hmo]
    have hp : (-1074 + ((n.natAbs.log2 + 1023 - 1 : Nat) : Int)) = (n.natAbs.log2 : Int) - 52 := by omega
    rw [hp]
    have hz : ((n.natAbs.log2 : Int) - 52).toNat = 0 := by omega
    have hd : (-((n.natAbs.log2 : Int) - 52)).toNat = 52 - n.natAbs.log2 := by omega
    simp only [Datum.integral]
    rw [hz, hd, Nat.shiftLeft_zero]
    have hpp : 0 < 2 ^ (52 - n.natAbs.log2) := Nat.two_pow_pos _
    have hc : Toward.zero.cut (decide (n < 0)) (n.natAbs * 2 ^ (52 - n.natAbs.log2)) (52 - n.natAbs.log2) = n.natAbs := by
      have hge : 2 ^ (52 - n.natAbs.log2) ≤ n.natAbs * 2 ^ (52 - n.natAbs.log2) := Nat.le_mul_of_pos_left _ h0
      have hlog : 52 - n.natAbs.log2 ≤ (n.natAbs * 2 ^ (52 - n.natAbs.log2)).log2 := by
        rcases Nat.lt_or_ge (n.natAbs * 2 ^ (52 - n.natAbs.log2)).log2 (52 - n.natAbs.log2) with h | h
        · have h3 := (log2_pow (m := n.natAbs * 2 ^ (52 - n.natAbs.log2)) (by omega)).2
          have : 2 ^ ((n.natAbs * 2 ^ (52 - n.natAbs.log2)).log2 + 1) ≤ 2 ^ (52 - n.natAbs.log2) := Nat.pow_le_pow_right (by omega) (by omega)
          omega
        · exact h
      unfold Toward.cut
      simp only
      rw [Nat.min_eq_left (by omega), Nat.shiftLeft_eq, Nat.one_mul, Nat.mul_div_cancel _ hpp]
      rfl
    rw [hc]
    rfl
theorem arch_call (n : Int) (hm : n.natAbs ≤ 9223372036854775808) : ∃ b, (∀ w, (callFunc 78 #[.float .f64 (fl n)]).run Try.prog w = .ok (.value (.float .f64 b)) w) ∧ (n.natAbs ≤ 1048576 → b = fl n) := by
  refine ⟨Ieee.double.write ((Ieee.double.read (fl n)).integral .zero), fun w => ?_, fun hs => integral_small hs⟩
  rw [run_callFunc_extern Try.func78 (by kernel_rfl) (by kernel_rfl) (by kernel_rfl) (e := Extern.MathFloor.toIntegral "math.archTrunc" .zero) (by kernel_rfl)]
  have hd : ∃ s m i, FloatKind.f64.decode (fl n) = .number s m i := by
    by_cases hn : n = 0
    · subst hn; rw [fl_zero]; exact ⟨_, _, _, rfl⟩
    · exact ⟨_, _, _, read_fl hn hm⟩
  obtain ⟨s, m, i, hd⟩ := hd
  have key : ∀ d : Ieee.Datum, FloatKind.f64.decode (fl n) = d → (∃ s m i, d = .number s m i) → Extern.MathFloor.toIntegral "math.archTrunc" .zero #[.float .f64 (fl n)] = pure (.float .f64 (FloatKind.f64.encode (d.integral .zero))) := by
    rintro d hx ⟨s, m, i, rfl⟩
    conv => lhs; whnf
    rw [hx]
  rw [key _ rfl ⟨s, m, i, hd⟩]
  rfl
set_option maxHeartbeats 1000000 in
set_option maxRecDepth 100000 in
theorem Trunc_all (n : Int) (hm : n.natAbs ≤ 9223372036854775808) (w : World) :
    Calls Try.prog 76 #[.float .f64 (fl n)] w fun e w' => (∃ b, e = .returned (.float .f64 b) ∧ (n.natAbs ≤ 1048576 → b = fl n)) ∧ w' = w := by
  obtain ⟨b, hc, hb⟩ := arch_call n hm
  have HB := Lib.hid hb
  clear hb
  go_enter Try.func76, Try.ntmps76
  go_wp2_with fail
  go_ret
  exact ⟨⟨_, rfl, HB.out⟩, rfl⟩
set_option maxHeartbeats 1000000 in
set_option maxRecDepth 100000 in
theorem part_all (n : Int) (hm : n.natAbs ≤ 9223372036854775808) (w : World) :
    Calls Try.prog 75 #[.float .f64 (fl n)] w fun e w' => e = .returned (.bool (fits n)) ∧ w' = w := by
  have HO : FloatKind.f64.format.order (fl n) (fl n) = some .eq := order_self n hm
  have HL := Lib.hid (show (FloatKind.f64.format.order (mg n) 4697254411347427328 == some .lt || FloatKind.f64.format.order (mg n) 4697254411347427328 == some .eq) = fits n from leq_20 n hm)
  have HM := Lib.hid (fl_mod n hm)
  have hlt := fl_lt n hm
  have HT := Trunc_all n hm w
  have HF := Lib.hid (show ¬ n.natAbs ≤ 1048576 → fits n = false from fun h => by unfold fits; simp; omega)
  generalize hb : fl n = b at *
  clear hb
  go_enter Try.func75, Try.ntmps75
  go_wp2_with fail
  refine HT.mono ?_
  rintro e w' ⟨⟨c, rfl, hc⟩, rfl⟩
  by_cases hs : n.natAbs ≤ 1048576
  · obtain rfl := hc hs
    have h1 : (FloatKind.f64.format.order c c == some Ordering.eq) = true := by rw [HO]; rfl
    clear hc hs HO
    go_wp2_with fail
    refine (abs_any c hlt w').mono ?_
    rintro e w' ⟨rfl, rfl⟩
    rw [HM.out]
    go_wp2_with fail
    go_ret
    rw [← HL.out]
    exact ⟨rfl, rfl⟩
  · have hf := HF.out hs
    clear hc hs HO
    rcases hcc : (FloatKind.f64.format.order b c == some Ordering.eq) with _ | _
    · go_wp2_with fail
      go_ret
      rw [hf]
      exact ⟨rfl, rfl⟩
    · go_wp2_with fail
      refine (abs_any b hlt w').mono ?_
      rintro e w' ⟨rfl, rfl⟩
      rw [HM.out]
      go_wp2_with fail
      go_ret
      rw [← HL.out]
      exact ⟨rfl, rfl⟩
set_option maxHeartbeats 1000000 in
set_option maxRecDepth 100000 in
/-- num.Right of a number of two whole ones. -/
theorem right_any (x y : Int) (hx : x.natAbs ≤ 9223372036854775808) (hy : y.natAbs ≤ 9223372036854775808) (w : World) :
    Calls Try.prog 68 #[.complex .f64 (fl x) (fl y)] w fun e w' => e = .returned (.bool (fits x && fits y)) ∧ w' = w := by
  have HX := Lib.hid (part_all x hx w)
  have HY := Lib.hid (part_all y hy w)
  go_enter Try.func68, Try.ntmps68
  go_wp2_with fail
  refine HX.out.mono ?_
  rintro e w' ⟨rfl, rfl⟩
  rcases hfx : fits x with _ | _
  · go_wp2_with fail
    go_ret
    exact ⟨by simp [hfx], rfl⟩
  · go_wp2_with fail
    refine HY.out.mono ?_
    rintro e w' ⟨rfl, rfl⟩
    go_wp2_with fail
    go_ret
    exact ⟨by simp [hfx], rfl⟩
end Go.Proofs.Ytbpeoclhabgcgaa
