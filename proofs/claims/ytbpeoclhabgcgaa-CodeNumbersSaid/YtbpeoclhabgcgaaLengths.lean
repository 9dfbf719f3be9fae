import Derived.Test.YtbpeoclhabgcgaaKnown
namespace Go.Proofs.Ytbpeoclhabgcgaa
open Go.RowKit
set_option linter.unusedVariables false
set_option linter.unusedSimpArgs false

/-- How many groups of seven bits a number has; none: nought. -/
def grp (m : Nat) : Nat := if m = 0 then 0 else (encN m).length
theorem grp_first (b : Nat) : 1 + grp (b / 128) = (encN b).length := by
  unfold grp
  by_cases h : b < 128
  · rw [encN_small h, if_pos (by omega)]; rfl
  · rw [encN_big h, if_neg (by omega), List.length_cons]; omega
theorem grp_next (m : Nat) (h : 0 < m) : grp m = 1 + grp (m / 128) := by
  rw [grp_first]; unfold grp; rw [if_neg (by omega)]
theorem encN_mono : ∀ (a b : Nat), a ≤ b → (encN a).length ≤ (encN b).length := by
  intro a
  induction a using Nat.strongRecOn with
  | _ a ih =>
    intro b hab
    by_cases ha : a < 128
    · rw [encN_small ha]; have := encN_pos b; simpa using this
    · rw [encN_big ha, encN_big (show ¬ b < 128 by omega), List.length_cons, List.length_cons]
      have := ih (a / 128) (by omega) (b / 128) (Nat.div_le_div_right hab)
      omega
theorem own_shape {w : World} {base : Nat} {v : Value} {l : List UInt8} (h : w.ownsRow base 5 1 v l.length (bytesV l)) : ∃ ao cap, v = .slice ao l.length cap := by
  rcases h.2 with h | ⟨g, cap, cur, h, _⟩
  · exact ⟨none, 0, by rw [h.1, h.2]⟩
  · exact ⟨_, cap, h⟩
/-- A writer beside a writer that writes. -/
theorem Wr.beside2 {w w1 : World} {a b : Nat} {v v1 vs : Value} {r : List UInt8} (h : Wr w b vs r) (hd : Apart (WrS b vs) (WrS a v)) (hu : Upd (WrS a v) w w1)
    (hv : ∀ k, v1.ownBlock = some k → v.ownBlock = some k ∨ w.heap.size ≤ k) : Wr w1 b vs r ∧ Apart (WrS b vs) (WrS a v1) := by
  refine ⟨h.upd hu (fun k _ hk => hd k hk), fun k hk hw => ?_⟩
  rcases hw with rfl | hw
  · exact hd _ hk (.inl rfl)
  · rcases hv k hw with h' | h'
    · exact hd k hk (.inr h')
    · have := h.in k hk; omega
theorem Apart.symm {A B : Nat → Prop} (h : Apart A B) : Apart B A := fun k hk ha => h k ha hk

set_option maxHeartbeats 1000000 in
set_option maxRecDepth 100000 in
theorem lengths_le (a b : Int) (w : World) (ha : U64 a) (hb : U64 b) (hab : a ≤ b) : Calls Try.prog 3 #[.int .u64 a, .int .u64 b] w (TrueP w) := by
  obtain ⟨ha0, ha1⟩ := ha
  obtain ⟨hb0, hb1⟩ := hb
  go_enter Try.func3, Try.ntmps3
  go_wp2_with fail
  refine (newWriter_any _).mono ?_
  rintro e w1 ⟨p, rfl, hp, hw, hu⟩
  have HW := Lib.hid hw
  have HU := Lib.hid hu
  have HA := Lib.hid hp
  clear hw hu hp
  go_wp2_with fail
  refine (newWriter_any _).mono ?_
  rintro e w2 ⟨q, rfl, hq, hw, hu⟩
  have HW2 := Lib.hid (HW.out.upd hu (fun _ _ _ h => h))
  have HQ2 := Lib.hid hw
  have hpq : p < q := Nat.lt_of_lt_of_le HW.out.lt hq
  have HD := Lib.hid (show Apart (WrS q (.slice none 0 0)) (WrS p (.slice none 0 0)) by
    rintro k (rfl | hk) (hk' | hk')
    · omega
    · simp [Value.ownBlock] at hk'
    · simp [Value.ownBlock] at hk
    · simp [Value.ownBlock] at hk)
  have HU2 := Lib.hid (HU.out.trans' hu)
  have HN := Lib.hid (show New w (WrS p (.slice none 0 0)) by
    rintro k (rfl | hk)
    · exact HA.out
    · simp [Value.ownBlock] at hk)
  have HM := Lib.hid (show New w (WrS q (.slice none 0 0)) by
    rintro k (rfl | hk)
    · exact Nat.le_trans HU.out.size hq
    · simp [Value.ownBlock] at hk)
  clear hw hu hq hpq
  go_wp2_with fail
  refine (number_any p _ _ a _ HW2.out ⟨ha0, ha1⟩ (by simp)).mono ?_
  rintro e w3 ⟨rfl, v3, hw3, hu3, hv3⟩
  have HW3 := Lib.hid hw3
  have HQ3 := Lib.hid (HQ2.out.beside2 HD.out hu3 hv3)
  have HU3 := Lib.hid (HU2.out.new HN.out hu3)
  have HN3 := Lib.hid (HN.out.next HU2.out hv3)
  clear hw3 hu3 hv3
  go_wp2_with fail
  refine (number_any q _ _ b _ HQ3.out.1 ⟨hb0, hb1⟩ (by simp)).mono ?_
  rintro e w4 ⟨rfl, v4, hw4, hu4, hv4⟩
  have HQ4 := Lib.hid hw4
  have HW4 := Lib.hid (HW3.out.beside2 HQ3.out.2.symm hu4 hv4)
  have HU4 := Lib.hid (HU3.out.new HM.out hu4)
  clear hw4 hu4 hv4
  go_wp2
  go_loop [7, 8] (fun n x => ∃ k m : Nat, n = .int .i64 k ∧ x = .int .u64 m ∧ k + grp m = (encN b.toNat).length ∧ k + grp m ≤ 10 ∧ m ≤ 18446744073709551615) (fun _ x => (intOf x).toNat)
  case atStart =>
    refine ⟨1, b.toNat / 128, rfl, ?_, grp_first _, ?_, by omega⟩
    · congr 1; omega
    · rw [grp_first]; exact encN_u64 ⟨hb0, hb1⟩
  case round =>
    obtain ⟨k, m, rfl, rfl, hg, hg10, hm⟩ := hrel
    by_cases h0 : 0 < m
    · have hgn := grp_next m h0
      have HG := Lib.hid hg
      have HGN := Lib.hid hgn
      have hk10 : k ≤ 10 := by omega
      have HT := Lib.hid hg10
      clear hg hgn hg10
      go_wp2
      go_round
      case rel =>
        have h1 := HG.out
        have h2 := HGN.out
        have h3 := HT.out
        exact ⟨k + 1, m / 128, by go_num, by go_num, by omega, by omega, by omega⟩
      case measure => simp [intOf]; omega
    · have hm0 : m = 0 := by omega
      have hk : k = (encN b.toNat).length := by rw [hm0] at hg; simpa [grp] using hg
      have HK := Lib.hid hk
      have hm1 : m ≤ 0 := by omega
      clear hg hg10 hm hm0 hk h0
      go_wp2_with fail
      refine (done_any q _ _ _ HQ4.out (by have := encN_u64 ⟨hb0, hb1⟩; simp; omega)).mono ?_
      rintro e w5 ⟨v5, rfl, ho, hu⟩
      obtain ⟨ao, cap, rfl⟩ := own_shape ho
      have HU5 := Lib.hid hu
      have f1 : ((([] ++ encN b.toNat).length : Int) == (k : Int)) = true := by rw [HK.out]; simp
      clear ho hu
      have hl5 : ([] ++ encN b.toNat).length = k := by rw [HK.out]; simp
      rw [hl5] at *
      clear f1 hl5
      go_wp2_with fail
      refine (done_any p _ _ _ (HW4.out.1.upd HU5.out (fun _ _ _ h => h)) (by have := encN_u64 ⟨ha0, ha1⟩; simp; omega)).mono ?_
      rintro e w6 ⟨v6, rfl, ho, hu⟩
      obtain ⟨ao6, cap6, rfl⟩ := own_shape ho
      have HU6 := Lib.hid hu
      have hle : ([] ++ encN a.toNat).length ≤ k := by rw [HK.out]; simpa using encN_mono a.toNat b.toNat (by omega)
      clear ho hu
      generalize ([] ++ encN a.toNat).length = k6 at *
      go_wp2_with fail
      refine (known_any _).mono ?_
      rintro e w7 ⟨rfl, hu⟩
      have HU7 := Lib.hid hu
      clear hu
      go_wp2
      go_ret
      exact ⟨rfl, ((HU4.out.trans' HU5.out).trans' HU6.out).trans' HU7.out⟩
set_option maxHeartbeats 1000000 in
set_option maxRecDepth 100000 in
theorem lengths_gt (a b : Int) (w : World) (ha : U64 a) (hb : U64 b) (hab : a < b) : Calls Try.prog 3 #[.int .u64 b, .int .u64 a] w (TrueP w) := by
  obtain ⟨ha0, ha1⟩ := ha
  obtain ⟨hb0, hb1⟩ := hb
  go_enter Try.func3, Try.ntmps3
  go_wp2_with fail
  refine (newWriter_any _).mono ?_
  rintro e w1 ⟨p, rfl, hp, hw, hu⟩
  have HW := Lib.hid hw
  have HU := Lib.hid hu
  have HA := Lib.hid hp
  clear hw hu hp
  go_wp2_with fail
  refine (newWriter_any _).mono ?_
  rintro e w2 ⟨q, rfl, hq, hw, hu⟩
  have HW2 := Lib.hid (HW.out.upd hu (fun _ _ _ h => h))
  have HQ2 := Lib.hid hw
  have hpq : p < q := Nat.lt_of_lt_of_le HW.out.lt hq
  have HD := Lib.hid (show Apart (WrS q (.slice none 0 0)) (WrS p (.slice none 0 0)) by
    rintro k (rfl | hk) (hk' | hk')
    · omega
    · simp [Value.ownBlock] at hk'
    · simp [Value.ownBlock] at hk
    · simp [Value.ownBlock] at hk)
  have HU2 := Lib.hid (HU.out.trans' hu)
  have HN := Lib.hid (show New w (WrS p (.slice none 0 0)) by
    rintro k (rfl | hk)
    · exact HA.out
    · simp [Value.ownBlock] at hk)
  have HM := Lib.hid (show New w (WrS q (.slice none 0 0)) by
    rintro k (rfl | hk)
    · exact Nat.le_trans HU.out.size hq
    · simp [Value.ownBlock] at hk)
  clear hw hu hq hpq
  go_wp2_with fail
  refine (number_any p _ _ a _ HW2.out ⟨ha0, ha1⟩ (by simp)).mono ?_
  rintro e w3 ⟨rfl, v3, hw3, hu3, hv3⟩
  have HW3 := Lib.hid hw3
  have HQ3 := Lib.hid (HQ2.out.beside2 HD.out hu3 hv3)
  have HU3 := Lib.hid (HU2.out.new HN.out hu3)
  have HN3 := Lib.hid (HN.out.next HU2.out hv3)
  clear hw3 hu3 hv3
  go_wp2_with fail
  refine (number_any q _ _ b _ HQ3.out.1 ⟨hb0, hb1⟩ (by simp)).mono ?_
  rintro e w4 ⟨rfl, v4, hw4, hu4, hv4⟩
  have HQ4 := Lib.hid hw4
  have HW4 := Lib.hid (HW3.out.beside2 HQ3.out.2.symm hu4 hv4)
  have HU4 := Lib.hid (HU3.out.new HM.out hu4)
  clear hw4 hu4 hv4
  go_wp2
  go_loop [7, 8] (fun n x => ∃ k m : Nat, n = .int .i64 k ∧ x = .int .u64 m ∧ k + grp m = (encN b.toNat).length ∧ k + grp m ≤ 10 ∧ m ≤ 18446744073709551615) (fun _ x => (intOf x).toNat)
  case atStart =>
    refine ⟨1, b.toNat / 128, rfl, ?_, grp_first _, ?_, by omega⟩
    · congr 1; omega
    · rw [grp_first]; exact encN_u64 ⟨hb0, hb1⟩
  case round =>
    obtain ⟨k, m, rfl, rfl, hg, hg10, hm⟩ := hrel
    by_cases h0 : 0 < m
    · have hgn := grp_next m h0
      have HG := Lib.hid hg
      have HGN := Lib.hid hgn
      have hk10 : k ≤ 10 := by omega
      have HT := Lib.hid hg10
      clear hg hgn hg10
      go_wp2
      go_round
      case rel =>
        have h1 := HG.out
        have h2 := HGN.out
        have h3 := HT.out
        exact ⟨k + 1, m / 128, by go_num, by go_num, by omega, by omega, by omega⟩
      case measure => simp [intOf]; omega
    · have hm0 : m = 0 := by omega
      have hk : k = (encN b.toNat).length := by rw [hm0] at hg; simpa [grp] using hg
      have HK := Lib.hid hk
      have hm1 : m ≤ 0 := by omega
      clear hg hg10 hm hm0 hk h0
      go_wp2_with fail
      refine (done_any q _ _ _ HQ4.out (by have := encN_u64 ⟨hb0, hb1⟩; simp; omega)).mono ?_
      rintro e w5 ⟨v5, rfl, ho, hu⟩
      obtain ⟨ao, cap, rfl⟩ := own_shape ho
      have HU5 := Lib.hid hu
      have f1 : ((([] ++ encN b.toNat).length : Int) == (k : Int)) = true := by rw [HK.out]; simp
      clear ho hu
      have hl5 : ([] ++ encN b.toNat).length = k := by rw [HK.out]; simp
      rw [hl5] at *
      clear f1 hl5
      go_wp2_with fail
      refine (done_any p _ _ _ (HW4.out.1.upd HU5.out (fun _ _ _ h => h)) (by have := encN_u64 ⟨ha0, ha1⟩; simp; omega)).mono ?_
      rintro e w6 ⟨v6, rfl, ho, hu⟩
      obtain ⟨ao6, cap6, rfl⟩ := own_shape ho
      have HU6 := Lib.hid hu
      have hle : ([] ++ encN a.toNat).length ≤ k := by rw [HK.out]; simpa using encN_mono a.toNat b.toNat (by omega)
      clear ho hu
      generalize ([] ++ encN a.toNat).length = k6 at *
      go_wp2_with fail
      refine (known_any _).mono ?_
      rintro e w7 ⟨rfl, hu⟩
      have HU7 := Lib.hid hu
      clear hu
      go_wp2
      go_ret
      exact ⟨rfl, ((HU4.out.trans' HU5.out).trans' HU6.out).trans' HU7.out⟩

theorem TrueP.below {w w' : World} {e : Ending} (h : TrueP w e w') : e = .returned (.bool true) ∧ Below w.heap.size w w' :=
  ⟨h.1, h.2.below (Nat.le_refl _) (fun _ _ h => h.elim)⟩
theorem wf_u64 {a : Int} (h : (Lit.int .u64 a).wf = true) : U64 a := by
  have e1 : IntKind.u64.min = 0 := by decide
  have e2 : IntKind.u64.max = 18446744073709551615 := by decide
  simp [Lit.wf] at h
  rw [e1, e2] at h
  exact h
theorem wf_i64 {a : Int} (h : (Lit.int .i64 a).wf = true) : -9223372036854775808 ≤ a ∧ a ≤ 9223372036854775807 := by
  simp [Lit.wf] at h
  exact h
theorem lengths_any (a b : Int) (w : World) (ha : (Lit.int .u64 a).wf = true) (hb : (Lit.int .u64 b).wf = true) :
    Calls Try.prog 3 #[.int .u64 a, .int .u64 b] w fun e w' => e = .returned (.bool true) ∧ Below w.heap.size w w' := by
  have ha' := wf_u64 ha
  have hb' := wf_u64 hb
  by_cases h : a ≤ b
  · exact (lengths_le a b w ha' hb' h).mono fun _ _ h => h.below
  · exact (lengths_gt b a w hb' ha' (by omega)).mono fun _ _ h => h.below
end Go.Proofs.Ytbpeoclhabgcgaa
