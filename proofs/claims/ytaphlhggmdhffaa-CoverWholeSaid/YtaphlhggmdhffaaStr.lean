import Derived.Test.YtaphlhggmdhffaaOpen
import Derived.Test.YtaphlhggmdhffaaChecked
import Derived.Deep.DeepCutAuto
import Derived.Deep.CutBlock
import Derived.Deep.RegionHeld3
import Derived.Lib.LastIndexByte
import Derived.BigQuiet
/-
  WORDS ON NAMES: what is behind the last dot.
-/
namespace Go.Proofs.Ytaphlhggmdhffaa
open Go.RowKit
set_option linter.unusedVariables false
set_option linter.unusedSimpArgs false
/-- What is behind the last dot. -/
def La (s : ByteArray) : ByteArray := s.extract (Lib.lastIndexByte s 46 + 1).toNat s.size
theorem byte_bang (s : ByteArray) (j : Nat) (hj : j < s.size) : s.data[j]! = s[j] := by
  rw [getElem!_pos s.data j (by simpa using hj)]; rfl
theorem lastIdx_range (s : ByteArray) (c : Int) (k : Nat) : -1 ≤ Lib.lastIdx s c k ∧ Lib.lastIdx s c k < k := by
  rcases Lib.lastIdx_spec s c k with ⟨h, _⟩ | ⟨i, hi, h, _⟩
  · rw [h]; omega
  · rw [h]; omega
set_option maxHeartbeats 4000000 in
set_option maxRecDepth 100000 in
/-- bytealg.LastIndexByteString. -/
theorem lib_any (s : ByteArray) (c : Int) (hs : s.size ≤ 140737488351232) (w : World) :
    Calls Try.prog 19 #[.string s, .int .u8 c] w fun e w' => e = .returned (.int .i64 (Lib.lastIndexByte s c)) ∧ w' = w := by
  go_enter Try.func19, Try.ntmps19
  go_wp2
  go_loop [5] (fun vi => ∃ k : Nat, k ≤ s.size ∧ vi = .int .i64 ((k : Int) - 1) ∧ Hid (Lib.lastIndexByte s c = Lib.lastIdx s c k)) (fun vi => ((RowKit.intOf vi) + 1).toNat)
  case atStart => exact ⟨s.size, Nat.le_refl _, by first | rfl | go_num | (congr 1; omega), rfl⟩
  case round =>
    obtain ⟨k, hk, rfl, hh⟩ := hrel
    go_wp2
    · have hc : (((s[k - 1]).toNat : Int) == c) = true := by assumption
      have k1 : 1 ≤ k := by omega
      have e1 : Lib.lastIdx s c k = ((k - 1 : Nat) : Int) := by
        have := Lib.lastIdx_hit s c (k - 1) (by rw [byte_bang s (k - 1) (by omega)]; simpa using hc)
        rwa [show k - 1 + 1 = k by omega] at this
      have e2 : ((k - 1 : Nat) : Int) = (k : Int) - 1 := by omega
      go_ret
      rw [hh.out, e1, e2]
      exact ⟨rfl, rfl⟩
    · have hc : (((s[k - 1]).toNat : Int) == c) = false := by assumption
      have k1 : 1 ≤ k := by omega
      have e1 : Lib.lastIdx s c k = Lib.lastIdx s c (k - 1) := by
        have := Lib.lastIdx_miss s c (k - 1) (by rw [byte_bang s (k - 1) (by omega)]; simpa using hc)
        rwa [show k - 1 + 1 = k by omega] at this
      refine ⟨⟨k - 1, by omega, by congr 1; omega, hh.out.trans e1⟩, ?_⟩
      simp [RowKit.intOf]; omega
    · have k0 : k = 0 := by omega
      subst k0
      go_ret
      rw [hh.out]
      exact ⟨rfl, rfl⟩
set_option maxHeartbeats 4000000 in
set_option maxRecDepth 100000 in
/-- strings.LastIndex(s, "."). -/
theorem li_any (s : ByteArray) (hs : s.size ≤ 140737488351232) (w : World) :
    Calls Try.prog 18 #[.string s, .string ⟨#[46]⟩] w fun e w' => e = .returned (.int .i64 (Lib.lastIndexByte s 46)) ∧ w' = w := by
  go_enter Try.func18, Try.ntmps18
  go_wp2_with fail
  refine (lib_any s 46 hs w).mono ?_
  rintro e w' ⟨rfl, rfl⟩
  go_wp2_with fail
  go_ret
  exact ⟨rfl, rfl⟩
set_option maxHeartbeats 4000000 in
set_option maxRecDepth 100000 in
/-- cover.last. -/
theorem cl_any (s : ByteArray) (hs : s.size ≤ 140737488351232) (w : World) :
    Calls Try.prog 17 #[.string s] w fun e w' => e = .returned (.string (La s)) ∧ w' = w := by
  go_enter Try.func17, Try.ntmps17
  go_wp2_with fail
  refine (li_any s hs w).mono ?_
  rintro e w' ⟨rfl, rfl⟩
  have hr := lastIdx_range s 46 s.size
  have hL : La s = s.extract (Lib.lastIndexByte s 46 + 1).toNat s.size := rfl
  unfold Lib.lastIndexByte at *
  generalize Lib.lastIdx s 46 s.size = n at *
  have h1 : -1 ≤ n := hr.1
  have h2 : n < s.size := hr.2
  have h3 : 0 ≤ n + 1 := by omega
  have h4 : n + 1 ≤ s.size := by omega
  clear hr
  go_wp2_with fail
  go_ret
  rw [hL]
  exact ⟨rfl, rfl⟩
set_option maxHeartbeats 4000000 in
set_option maxRecDepth 100000 in
/-- The law's own last. -/
theorem ol_any (s : ByteArray) (hs : s.size ≤ 140737488351232) (w : World) :
    Calls Try.prog 14 #[.string s] w fun e w' => e = .returned (.string (La s)) ∧ w' = w := by
  go_enter Try.func14, Try.ntmps14
  go_wp2
  go_loop [3] (fun vi => ∃ k : Nat, k ≤ s.size ∧ vi = .int .i64 ((k : Int) - 1) ∧ Hid (Lib.lastIndexByte s 46 = Lib.lastIdx s 46 k)) (fun vi => ((RowKit.intOf vi) + 1).toNat)
  case atStart => exact ⟨s.size, Nat.le_refl _, by first | rfl | go_num | (congr 1; omega), rfl⟩
  case round =>
    obtain ⟨k, hk, rfl, hh⟩ := hrel
    go_wp2
    · have hc : (((s[k - 1]).toNat : Int) == 46) = true := by assumption
      have k1 : 1 ≤ k := by omega
      have e1 : Lib.lastIdx s 46 k = ((k - 1 : Nat) : Int) := by
        have := Lib.lastIdx_hit s 46 (k - 1) (by rw [byte_bang s (k - 1) (by omega)]; simpa using hc)
        rwa [show k - 1 + 1 = k by omega] at this
      go_ret
      unfold La
      have e2 : (((k - 1 : Nat) : Int) + 1).toNat = k := by omega
      rw [hh.out, e1, e2]
      refine ⟨?_, rfl⟩
      first | rfl | simp
    · have hc : (((s[k - 1]).toNat : Int) == 46) = false := by assumption
      have k1 : 1 ≤ k := by omega
      have e1 : Lib.lastIdx s 46 k = Lib.lastIdx s 46 (k - 1) := by
        have := Lib.lastIdx_miss s 46 (k - 1) (by rw [byte_bang s (k - 1) (by omega)]; simpa using hc)
        rwa [show k - 1 + 1 = k by omega] at this
      refine ⟨⟨k - 1, by omega, by congr 1; omega, hh.out.trans e1⟩, ?_⟩
      simp [RowKit.intOf]; omega
    · have k0 : k = 0 := by omega
      subst k0
      go_ret
      unfold La
      rw [hh.out]
      refine ⟨?_, rfl⟩
      have : s.extract (Lib.lastIdx s 46 0 + 1).toNat s.size = s := by simp [Lib.lastIdx]
      rw [this]
      rfl
end Go.Proofs.Ytaphlhggmdhffaa
