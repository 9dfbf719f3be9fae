import Derived.Test.YtckgcfkahffibaaKept
namespace Go.Proofs.Ytckgcfkahffibaa
open Go.RowKit
set_option linter.unusedVariables false
set_option linter.unusedSimpArgs false
def bOf (i : Nat) : UInt8 := UInt8.ofNat (i + 1)
/-- The disk behind i writes, of which n are let by. -/
def fst (n : Nat) : Nat → DS
  | 0 => { DS.new with left := n }
  | i + 1 => ((fst n i).wr i (one (bOf i))).2
def wlist : Nat → List (Nat × List UInt8)
  | 0 => []
  | i + 1 => wlist i ++ [(i, one (bOf i))]
theorem wlist_len : ∀ i, (wlist i).length = i
  | 0 => rfl
  | i + 1 => by simp [wlist, wlist_len i]
theorem laid_wlist : ∀ n i, laid DS.new.ml (wlist n) i = if i < n then one (bOf i) else one 0
  | 0, i => rfl
  | n + 1, i => by
    have ih := laid_wlist n i
    have e : laid DS.new.ml (wlist (n + 1)) i = if i = n then one (bOf n) else laid DS.new.ml (wlist n) i := by simp [laid, wlist, List.foldl_append]
    rw [e, ih]
    by_cases h : i = n
    · subst h; simp
    · rw [if_neg h]
      by_cases h2 : i < n
      · rw [if_pos h2, if_pos (by omega)]
      · rw [if_neg h2, if_neg (by omega)]
theorem may_ok {d : DS} {i : Nat} (hi : i < 255) (hg : d.gone = false) : d.may i = 0 := by
  unfold DS.may; rw [if_neg (by omega), hg]; simp
theorem may_gone {d : DS} {i : Nat} (hi : i < 255) (hg : d.gone = true) : d.may i = 37 := by
  unfold DS.may; rw [if_neg (by omega), hg]; simp
theorem wr_ok {d : DS} {i : Nat} (hi : i < 255) (hg : d.gone = false) (hl : 0 < d.left) (b : List UInt8) : d.wr i b = (0, d.put i b (d.left - 1)) := by
  unfold DS.wr
  rw [if_neg (by rw [may_ok hi hg]; omega), if_neg (by omega), if_pos hl]; rfl
theorem wr_end {d : DS} {i : Nat} (hi : i < 255) (hg : d.gone = false) (hl : d.left = 0) (b : List UInt8) : d.wr i b = (37, { d with gone := true }) := by
  unfold DS.wr
  rw [if_neg (by rw [may_ok hi hg]; omega), if_pos hl]
theorem wr_gone {d : DS} {i : Nat} (hi : i < 255) (hg : d.gone = true) (b : List UInt8) : d.wr i b = (37, d) := by
  unfold DS.wr
  rw [if_pos (by rw [may_gone hi hg]; omega), may_gone hi hg]
theorem fst_ok (n : Nat) : ∀ i, i ≤ n → i < 255 → (fst n i).left = (n : Int) - i ∧ (fst n i).gone = false ∧ (fst n i).ws = wlist i ∧ (fst n i).ml = DS.new.ml
  | 0, _, _ => ⟨by simp [fst], rfl, rfl, rfl⟩
  | i + 1, h, h' => by
    obtain ⟨h1, h2, h3, h4⟩ := fst_ok n i (by omega) (by omega)
    have e : fst n (i + 1) = ((fst n i).wr i (one (bOf i))).2 := rfl
    rw [e, wr_ok (by omega) h2 (by omega)]
    refine ⟨?_, h2, ?_, h4⟩
    · show (fst n i).left - 1 = _
      rw [h1]; omega
    · show (fst n i).ws ++ _ = _
      rw [h3]; rfl
theorem fst_bad (n : Nat) : ∀ i, n < i → i < 255 → (fst n i).left = 0 ∧ (fst n i).gone = true ∧ (fst n i).ws = wlist n ∧ (fst n i).ml = DS.new.ml
  | 0, h, _ => by omega
  | i + 1, h, h' => by
    have e : fst n (i + 1) = ((fst n i).wr i (one (bOf i))).2 := rfl
    by_cases hi : i = n
    · subst hi
      obtain ⟨h1, h2, h3, h4⟩ := fst_ok i i (by omega) (by omega)
      rw [e, wr_end (by omega) h2 (by omega)]
      exact ⟨by rw [show ({ fst i i with gone := true } : DS).left = (fst i i).left from rfl, h1]; omega, rfl, h3, h4⟩
    · obtain ⟨h1, h2, h3, h4⟩ := fst_bad n i (by omega) (by omega)
      rw [e, wr_gone (by omega) h2]
      exact ⟨h1, h2, h3, h4⟩
theorem fst_wr (n i : Nat) (hi : i < 254) : (fst n i).wr i (one (bOf i)) = (if i < n then 0 else 37, fst n (i + 1)) := by
  have e : fst n (i + 1) = ((fst n i).wr i (one (bOf i))).2 := rfl
  rw [e]
  by_cases h : i < n
  · obtain ⟨h1, h2, h3, h4⟩ := fst_ok n i (by omega) (by omega)
    rw [if_pos h, wr_ok (by omega) h2 (by omega)]
  · rw [if_neg h]
    by_cases hi : i = n
    · subst hi
      obtain ⟨h1, h2, h3, h4⟩ := fst_ok i i (by omega) (by omega)
      rw [wr_end (by omega) h2 (by omega)]
    · obtain ⟨h1, h2, h3, h4⟩ := fst_bad n i (by omega) (by omega)
      rw [wr_gone (by omega) h2]
theorem fst_ws_len (n i : Nat) (hi : i < 255) : (fst n i).ws.length ≤ 255 := by
  by_cases h : i ≤ n
  · rw [(fst_ok n i h hi).2.2.1, wlist_len]; omega
  · rw [(fst_bad n i (by omega) hi).2.2.1, wlist_len]; omega
/-- The disk that is left when power has gone. -/
theorem fst_cut (n i : Nat) (h : n < i) (hi : i < 255) : (fst n i).cut 1000 = DS.of (laid DS.new.ml (wlist n)) := by
  obtain ⟨_, _, h3, h4⟩ := fst_bad n i h hi
  unfold DS.cut
  rw [h3, h4, List.take_of_length_le (by rw [wlist_len]; omega)]
end Go.Proofs.Ytckgcfkahffibaa
