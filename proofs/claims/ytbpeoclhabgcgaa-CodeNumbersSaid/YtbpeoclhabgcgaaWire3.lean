import Derived.Test.YtbpeoclhabgcgaaWire2
namespace Go.Proofs.Ytbpeoclhabgcgaa
open Go.RowKit
set_option linter.unusedVariables false
set_option linter.unusedSimpArgs false

/-- Seven bits more. -/
def acc (n i m : Nat) : Nat := (n + m % 128 * 128 ^ i) % 18446744073709551616
theorem acc_u64 (n i m : Nat) : acc n i m < 18446744073709551616 := Nat.mod_lt _ (by decide)
theorem pow7 (i : Nat) : (2 : Nat) ^ (7 * i) = 128 ^ i := by rw [Nat.pow_mul]
theorem pow7i (i : Nat) : (2 : Int) ^ (7 * i) = ((128 ^ i : Nat) : Int) := by rw [← pow7]; simp
theorem accum (n i m : Nat) (hi : i ≤ 9) (hn : n < 128 ^ i) (hm : m < 256) :
    bits BinOp.or IntKind.u64 (n : Int) (IntKind.u64.wrap (IntKind.u64.wrap (bits BinOp.and IntKind.u8 (m : Int) 127) * 2 ^ (7 * i))) =
      ((acc n i m : Nat) : Int) := by
  unfold acc
  have e1 : bits BinOp.and IntKind.u8 (m : Int) 127 = ((m % 128 : Nat) : Int) := by
    have := u8_and_nat m 127 hm (by decide)
    rw [show ((127 : Nat) : Int) = 127 from rfl] at this
    rw [this, show (127 : Nat) = 2 ^ 7 - 1 from rfl, Nat.and_two_pow_sub_one_eq_mod]
  have hd : 128 ^ i ∣ 18446744073709551616 := by
    rw [← pow7, show (18446744073709551616 : Nat) = 2 ^ 64 by decide]
    exact Nat.pow_dvd_pow 2 (by omega)
  have hle : 128 ^ i ≤ 18446744073709551616 := Nat.le_of_dvd (by decide) hd
  rw [e1, wrapU, wrapU, pow7i]
  have e2 : (((m % 128 : Nat) : Int) % 18446744073709551616 * ((128 ^ i : Nat) : Int)) % 18446744073709551616 = ((m % 128 * 128 ^ i % 18446744073709551616 : Nat) : Int) := by
    have : ((m % 128 : Nat) : Int) % 18446744073709551616 = ((m % 128 : Nat) : Int) := by omega
    rw [this]; simp
  rw [e2, u64_or_nat _ _ (by omega) (Nat.mod_lt _ (by decide))]
  congr 1
  have hz : m % 128 * 128 ^ i % 18446744073709551616 % 2 ^ (7 * i) = 0 := by
    rw [pow7, Nat.mod_mod_of_dvd _ hd]; simp
  rw [Nat.or_comm, nat_join (7 * i) _ n hz (by rw [pow7]; exact hn)]
  obtain ⟨q, hq⟩ := hd
  have hz' : m % 128 * 128 ^ i % 18446744073709551616 = (m % 128) % q * 128 ^ i := by
    rw [hq, Nat.mul_comm (128 ^ i) q, Nat.mul_mod_mul_right]
  have hqp : 0 < q := by rcases Nat.eq_zero_or_pos q with h | h; · subst h; simp at hq
                         · exact h
  have hr := Nat.mod_lt (m % 128) hqp
  have hb : m % 128 * 128 ^ i % 18446744073709551616 + n < 18446744073709551616 := by
    rw [hz']
    have : ((m % 128) % q + 1) * 128 ^ i ≤ q * 128 ^ i := Nat.mul_le_mul_right _ hr
    rw [Nat.add_mul, Nat.one_mul] at this
    rw [hq, Nat.mul_comm (128 ^ i) q]
    omega
  rw [Nat.add_comm n, Nat.add_mod, Nat.mod_eq_of_lt (show n < _ by omega), Nat.mod_eq_of_lt hb]
theorem accum_lt (n i m : Nat) (hn : n < 128 ^ i) : acc n i m < 128 ^ (i + 1) := by
  unfold acc
  have h1 : m % 128 * 128 ^ i ≤ 127 * 128 ^ i := Nat.mul_le_mul_right _ (by omega)
  have h2 := Nat.mod_le (n + m % 128 * 128 ^ i) 18446744073709551616
  rw [Nat.pow_succ]
  omega
/-- A number as it stands in some bytes: its value, how many bytes it has, what is wrong. -/
def numF (b : List UInt8) : Nat → Nat → Nat → Nat × Nat × Nat
  | 0, _, _ => (0, 0, 12)
  | k + 1, i, n =>
    match b[i]? with
    | none => (0, 0, 10)
    | some c =>
      if 128 ≤ c.toNat then numF b k (i + 1) (acc n i c.toNat)
      else if (i = 9 ∧ 1 < c.toNat) ∨ (0 < i ∧ c.toNat = 0) then (0, 0, 12)
      else (acc n i c.toNat, i + 1, 0)
def numR (b : List UInt8) : Nat × Nat × Nat := numF b 10 0 0

def RnJ (V : Value) (l : List UInt8) (w0 : World) (A : Act) (w : World) : Prop :=
  ∃ (n i : Nat) (u1 u2 u3 u4 u7 u8 u9 u10 u11 u12 u13 u14 u15 u16 u17 u18 u19 u20 u21 u22 u23 u24 u25 u26 u27 u28 u29 u30 u31 u32 u33 u34 u35 u36 u37 u38 u39 u40 u41 u42 u43 u44 u45 u46 u47 : Value), A = { tmps := #[V, u1, u2, u3, u4, .int .u64 (n : Int), .int .i64 (i : Int), u7, u8, u9, u10, u11, u12, u13, u14, u15, u16, u17, u18, u19, u20, u21, u22, u23, u24, u25, u26, u27, u28, u29, u30, u31, u32, u33, u34, u35, u36, u37, u38, u39, u40, u41, u42, u43, u44, u45, u46, u47], defers := [] } ∧ w0 = w ∧ i ≤ 10 ∧ i ≤ l.length ∧ n < 128 ^ i ∧ n < 18446744073709551616 ∧ numF l (10 - i) i n = numR l


set_option maxHeartbeats 1000000 in
set_option maxRecDepth 100000 in
theorem rnumber_any (v : Value) (l : List UInt8) (w : World) (hb : Bytes w v l) : Calls Try.prog 56 #[v] w fun e w' =>
    e = .returned (.tuple #[.int .u64 (numR l).1, .int .i64 (numR l).2.1, .int .i64 (numR l).2.2]) ∧ w = w' := by
  obtain ⟨ao, cap, rfl, h1, h2, h3⟩ := hb
  go_enter Try.func56, Try.ntmps56
  go_wp2_with fail
  refine wp_scope_mid 0 (RnJ (.slice ao l.length cap) l w) (fun A _ => 11 - (intOf (A.tmps.getD 6 undef)).toNat) rfl ?_ ?_
  · go_wp2
    exact ⟨0, 0, _, _, _, _, _, _, _, _, _, _, _, _, _, _, _, _, _, _, _, _, _, _, _, _, _, _, _, _, _, _, _, _, _, _, _, _, _, _, _, _, _, _, _, _, _, rfl, rfl, by omega, by omega, by omega, by omega, rfl⟩
  intro A wr HJ
  obtain ⟨n, i, u1, u2, u3, u4, u7, u8, u9, u10, u11, u12, u13, u14, u15, u16, u17, u18, u19, u20, u21, u22, u23, u24, u25, u26, u27, u28, u29, u30, u31, u32, u33, u34, u35, u36, u37, u38, u39, u40, u41, u42, u43, u44, u45, u46, u47, rfl, rfl, hi, hil, hn, hn2, hnum⟩ := HJ
  have HN := Lib.hid hnum
  have HB := Lib.hid hn
  clear hnum hn
  by_cases h10 : i = 10
  · subst h10
    go_wp2
    have e := HN.out
    rw [show (10 - 10 : Nat) = 0 from rfl, numF] at e
    go_ret3
    rw [← e]
    exact ⟨rfl, rfl⟩
  · have q1 : ((i : Int) == 10) = false := by simp; omega
    by_cases hl : i = l.length
    · have q2 : ((i : Int) == (l.length : Int)) = true := by simp; omega
      have e := HN.out
      obtain ⟨k, hk⟩ : ∃ k, 10 - i = k + 1 := ⟨9 - i, by omega⟩
      rw [hk, numF, List.getElem?_eq_none (by omega)] at e
      have HE := Lib.hid e
      clear hl e
      go_wp2
      go_ret3
      rw [← HE.out]
      exact ⟨rfl, rfl⟩
    · have hlt : i < l.length := by omega
      have q2 : ((i : Int) == (l.length : Int)) = false := by simp; omega
      rcases h3 with rfl | ⟨b, off, rfl, hc0⟩
      · simp at hlt
      have hc : w.cell? ⟨b, off + i, none⟩ = some (.int .u8 (l[i].toNat : Int)) := hc0 i hlt
      have hget : l[i]? = some l[i] := List.getElem?_eq_getElem hlt
      have hb := UInt8.toNat_lt l[i]
      have HG := Lib.hid hget
      clear hc0 hget
      generalize l[i] = c at *
      obtain ⟨m, hm⟩ : ∃ m : Nat, m = c.toNat := ⟨_, rfl⟩
      rw [← hm] at hc hb
      have HM := Lib.hid hm
      clear hm
      obtain ⟨k, hk⟩ : ∃ k, 10 - i = k + 1 := ⟨9 - i, by omega⟩
      have hstep := HN.out
      rw [hk, numF, HG.out] at hstep
      simp only [← HM.out] at hstep
      have hac := accum n i m (by omega) HB.out (by omega)
      have HA := Lib.hid hac
      have HK := Lib.hid hk
      have hi1 : (i : Int) + 1 = ((i + 1 : Nat) : Int) := by omega
      have HI := Lib.hid hi1
      clear hac hk hi1
      by_cases hbig : 128 ≤ m
      · rw [if_pos hbig] at hstep
        have HS := Lib.hid hstep
        clear hstep
        go_wp2
        apply wp_goto
        rw [HA.out, HI.out]
        refine ⟨rfl, ⟨acc n i m, i + 1, _, _, _, _, _, _, _, _, _, _, _, _, _, _, _, _, _, _, _, _, _, _, _, _, _, _, _, _, _, _, _, _, _, _, _, _, _, _, _, _, _, _, _, _, _, rfl, rfl, by omega, by omega, accum_lt n i m HB.out, acc_u64 n i m, ?_⟩, ?_⟩
        · rw [← HS.out, show 10 - (i + 1) = k by have := HK.out; omega]
        · simp [intOf]; omega
      · rw [if_neg hbig] at hstep
        by_cases h9 : i = 9
        · have f1 : ((i : Int) + 1 == 10) = true := by simp; omega
          have hi9 : 9 ≤ i := by omega
          by_cases hm1 : 1 < m
          · rw [if_pos (by omega)] at hstep
            have HS := Lib.hid hstep
            clear h9
            clear hstep
            go_wp2
            go_ret3
            rw [← HS.out]
            exact ⟨rfl, rfl⟩
          · by_cases hm0 : m = 0
            · have f2 : ((m : Int) == 0) = true := by simp; omega
              rw [if_pos (by omega)] at hstep
              have HS := Lib.hid hstep
              clear h9 hm0
              clear hstep
              go_wp2
              go_ret3
              rw [← HS.out]
              exact ⟨rfl, rfl⟩
            · have f2 : ((m : Int) == 0) = false := by simp; omega
              rw [if_neg (by omega)] at hstep
              have HS := Lib.hid hstep
              clear h9 hm0
              clear hstep
              go_wp2
              go_ret3
              rw [← HS.out, HA.out, HI.out]
              exact ⟨rfl, rfl⟩
        · have f1 : ((i : Int) + 1 == 10) = false := by simp; omega
          by_cases hi0 : i < 1
          · rw [if_neg (by omega)] at hstep
            have HS := Lib.hid hstep
            clear hstep
            go_wp2
            go_ret3
            rw [← HS.out, HA.out, HI.out]
            exact ⟨rfl, rfl⟩
          · by_cases hm0 : m = 0
            · have f2 : ((m : Int) == 0) = true := by simp; omega
              rw [if_pos (by omega)] at hstep
              have HS := Lib.hid hstep
              clear hm0
              clear hstep
              go_wp2
              go_ret3
              rw [← HS.out]
              exact ⟨rfl, rfl⟩
            · have f2 : ((m : Int) == 0) = false := by simp; omega
              rw [if_neg (by omega)] at hstep
              have HS := Lib.hid hstep
              clear hm0
              clear hstep
              go_wp2
              go_ret3
              rw [← HS.out, HA.out, HI.out]
              exact ⟨rfl, rfl⟩
end Go.Proofs.Ytbpeoclhabgcgaa
