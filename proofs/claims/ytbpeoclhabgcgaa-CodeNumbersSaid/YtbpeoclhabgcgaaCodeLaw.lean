import Derived.Test.YtbpeoclhabgcgaaRefMem
/-
  THE PLAIN LAW: what code.One reads of the bytes behind a place is what the reference reads at that place.
-/
namespace Go.Proofs.Ytbpeoclhabgcgaa
set_option linter.unusedVariables false
set_option linter.unusedSimpArgs false
/-- Two readers at one place, the one of the bytes behind the first k. -/
structure Sim (k : Nat) (r r' : RS) : Prop where
  l : r.l = r'.l.drop k
  p : r'.p = r.p + k
  why : r.why = r'.why
  le : r.p + k ≤ r'.l.length
theorem Sim.len {k : Nat} {r r' : RS} (h : Sim k r r') : r.l.length + k = r'.l.length := by
  rw [h.l, List.length_drop]; have := h.le; omega
theorem Sim.drop {k : Nat} {r r' : RS} (h : Sim k r r') : r.l.drop r.p = r'.l.drop r'.p := by
  rw [h.l, List.drop_drop, h.p, Nat.add_comm]
theorem Sim.take {k : Nat} {r r' : RS} (h : Sim k r r') (n : Int) (hn : 0 ≤ n) : Sim k (r.take n) (r'.take n) ∧ r.took n = r'.took n := by
  have hlen := h.len
  have hd := h.drop
  have hp := h.p
  have hle := h.le
  have hl := h.l
  have hwhy := h.why
  unfold RS.take RS.took
  by_cases h0 : r'.why = 0
  · have h0' : r.why = 0 := by rw [hwhy, h0]
    by_cases h1 : (r'.l.length : Int) - r'.p < n
    · have h1' : (r.l.length : Int) - r.p < n := by omega
      rw [if_pos h0, if_pos h0', if_pos h1, if_pos h1', if_neg (by rintro ⟨_, h⟩; exact h h1'), if_neg (by rintro ⟨_, h⟩; exact h h1)]
      exact ⟨⟨hl, hp, rfl, hle⟩, rfl⟩
    · have h1' : ¬ (r.l.length : Int) - r.p < n := by omega
      rw [if_pos h0, if_pos h0', if_neg h1, if_neg h1', if_pos ⟨h0', h1'⟩, if_pos ⟨h0, h1⟩, hd]
      exact ⟨⟨hl, by show r'.p + n.toNat = r.p + n.toNat + k; omega, hwhy, by show r.p + n.toNat + k ≤ r'.l.length; omega⟩, rfl⟩
  · have h0' : ¬ r.why = 0 := by rw [hwhy]; exact h0
    rw [if_neg h0, if_neg h0', if_neg (by rintro ⟨h, _⟩; exact h0' h), if_neg (by rintro ⟨h, _⟩; exact h0 h)]
    exact ⟨h, rfl⟩
theorem Sim.number {k : Nat} {r r' : RS} (h : Sim k r r') (most : Int) : Sim k (r.number most).1 (r'.number most).1 ∧ (r.number most).2 = (r'.number most).2 := by
  have hd := h.drop
  have hp := h.p
  have hle := h.le
  have hl := h.l
  have hlen := h.len
  have hwhy := h.why
  unfold RS.number
  by_cases h0 : r'.why = 0
  · have h0' : r.why = 0 := by rw [hwhy, h0]
    rw [if_pos h0, if_pos h0', hd]
    obtain ⟨N, s, y, hN⟩ : ∃ N s y, numR (r'.l.drop r'.p) = (N, s, y) := ⟨_, _, _, rfl⟩
    have hok := numR_ok hN
    rw [hN]
    simp only
    by_cases h1 : y = 10
    · rw [if_pos h1, if_pos h1]; exact ⟨⟨hl, hp, rfl, hle⟩, rfl⟩
    · rw [if_neg h1, if_neg h1]
      by_cases h2 : y ≠ 0
      · rw [if_pos h2, if_pos h2]; exact ⟨⟨hl, hp, rfl, hle⟩, rfl⟩
      · rw [if_neg h2, if_neg h2]
        by_cases h3 : most < (N : Int)
        · rw [if_pos h3, if_pos h3]; exact ⟨⟨hl, hp, rfl, hle⟩, rfl⟩
        · rw [if_neg h3, if_neg h3]
          have hs : s ≤ (r'.l.drop r'.p).length := by omega
          rw [List.length_drop] at hs
          exact ⟨⟨hl, by show r'.p + s = r.p + s + k; omega, hwhy, by show r.p + s + k ≤ r'.l.length; omega⟩, rfl⟩
  · have h0' : ¬ r.why = 0 := by rw [hwhy]; exact h0
    rw [if_neg h0, if_neg h0']
    exact ⟨h, rfl⟩
theorem Sim.signed {k : Nat} {r r' : RS} (h : Sim k r r') : Sim k r.signed.1 r'.signed.1 ∧ r.signed.2 = r'.signed.2 := by
  have := h.number maxU
  unfold RS.signed
  exact ⟨this.1, by rw [this.2]⟩
theorem Sim.text {k : Nat} {r r' : RS} (h : Sim k r r') (n : Int) : Sim k (r.text n).1 (r'.text n).1 ∧ (r.text n).2 = (r'.text n).2 := by
  have h1 := h.number (max n 0)
  have h2 := h1.1.take ((r.number (max n 0)).2 : Int) (by omega)
  unfold RS.text
  rw [← h1.2]
  exact h2
theorem Sim.byte {k : Nat} {r r' : RS} (h : Sim k r r') : Sim k r.byte.1 r'.byte.1 ∧ r.byte.2 = r'.byte.2 := by
  have := h.take 1 (by omega)
  unfold RS.byte
  exact ⟨this.1, by rw [this.2]⟩
theorem Sim.word {k : Nat} {r r' : RS} (h : Sim k r r') : Sim k r.word.1 r'.word.1 ∧ r.word.2 = r'.word.2 := by
  have := h.take 2 (by omega)
  unfold RS.word
  exact ⟨this.1, by rw [this.2]⟩
theorem Sim.words {k : Nat} {r r' : RS} (h : Sim k r r') : ∀ n, Sim k (words r n).1 (words r' n).1 ∧ (words r n).2 = (words r' n).2
  | 0 => ⟨h, rfl⟩
  | n + 1 => by
    have ih := Sim.words h n
    have hw := ih.1.word
    exact ⟨hw.1, by show _ ++ _ = _ ++ _; rw [ih.2, hw.2]⟩
/-! ### A reader that has refused stays -/
theorem take_stuck {r : RS} (h : r.why ≠ 0) (n : Int) : r.take n = r := by unfold RS.take; rw [if_neg h]
theorem number_stuck {r : RS} (h : r.why ≠ 0) (n : Int) : (r.number n).1 = r := by unfold RS.number; rw [if_neg h]
theorem refuse_stuck {r : RS} (h : r.why ≠ 0) (y n : Int) : r.refuse y n = r := by unfold RS.refuse; rw [if_neg (by rintro ⟨h1, _⟩; exact h h1)]
theorem form_stuck {r : RS} (h : r.why ≠ 0) (b : Bool) : r.form b = r := by unfold RS.form; split; rfl; exact refuse_stuck h _ _
theorem byte_stuck {r : RS} (h : r.why ≠ 0) : r.byte.1 = r := take_stuck h 1
theorem signed_stuck {r : RS} (h : r.why ≠ 0) : r.signed.1 = r := number_stuck h maxU
theorem text_stuck {r : RS} (h : r.why ≠ 0) (n : Int) : (r.text n).1 = r := by
  unfold RS.text
  rw [number_stuck h]
  exact take_stuck h _
theorem body_stuck {r : RS} (h : r.why ≠ 0) (op : Int) : (cBody op r).1 = r := by
  unfold cBody
  split
  · show RS.form _ _ = r
    rw [signed_stuck h, signed_stuck h, form_stuck h]
  · split
    · exact text_stuck h _
    · rfl
theorem stA_stuck {r : RS} (h : r.why ≠ 0) (op : Int) : (stA op r).1 = r := by unfold stA; split; exact byte_stuck h; rfl
theorem stB_stuck {r : RS} (h : r.why ≠ 0) (op : Int) : (stB op r).1 = r := by unfold stB; split; exact byte_stuck h; rfl
theorem stN_stuck {r : RS} (h : r.why ≠ 0) (op A : Int) : (stN op A r).1 = r := by unfold stN; split; exact form_stuck h _; rfl
theorem stR_stuck {r : RS} (h : r.why ≠ 0) (op : Int) : (stR op r).1 = r := by
  unfold stR; split
  · show RS.form _ _ = r
    rw [word_stuck h, form_stuck h]
  · rfl
theorem rR_stuck {r : RS} (h : r.why ≠ 0) (op : Int) : (rR op r).1 = r := by unfold rR; split; exact word_stuck h; rfl
theorem words_all {r : RS} (h : r.why ≠ 0) (n : Nat) : (words r n).1 = r := words_stuck (q := 0) h n (by omega)
theorem form_false {r : RS} (h : r.why = 0) : (r.form false).why = 12 := by simp [RS.form, RS.refuse, h]
theorem fin_bad {r : RS} (h : r.why ≠ 0) : r.fin.1 = r.why := by unfold RS.fin; rw [if_neg h]
theorem fin_good {r : RS} (h : r.why = 0) : r.fin.1 = 0 ∨ r.fin.1 = 11 := by
  unfold RS.fin; rw [if_pos h]; split <;> simp
/-! ### What a refusal may be -/
def Wh (r : RS) : Prop := r.why = 0 ∨ r.why = 3 ∨ r.why = 10 ∨ r.why = 12
theorem Wh.take {r : RS} (h : Wh r) (n : Int) : Wh (r.take n) := by
  unfold RS.take; split
  · split
    · exact .inr (.inr (.inl rfl))
    · exact h
  · exact h
theorem Wh.number {r : RS} (h : Wh r) (n : Int) : Wh (r.number n).1 := by
  unfold RS.number
  split
  · obtain ⟨N, s, y, hN⟩ : ∃ N s y, numR (r.l.drop r.p) = (N, s, y) := ⟨_, _, _, rfl⟩
    have hok := numR_ok hN
    rw [hN]
    simp only
    split
    · exact .inr (.inr (.inl rfl))
    · split
      · have : y = 12 := by omega
        subst this
        exact .inr (.inr (.inr rfl))
      · split
        · exact .inr (.inl rfl)
        · exact h
  · exact h
theorem Wh.text {r : RS} (h : Wh r) (n : Int) : Wh (r.text n).1 := (h.number _).take _
theorem Wh.words {r : RS} (h : Wh r) : ∀ n, Wh (words r n).1
  | 0 => h
  | n + 1 => (Wh.words h n).take 2
end Go.Proofs.Ytbpeoclhabgcgaa
