import Derived.Test.YtbpeoclhabgcgaaCodeLaw2
/-
  THE PLAIN LAW: bytes read as instructions, one behind the other; what comes of it is one thing.
-/
namespace Go.Proofs.Ytbpeoclhabgcgaa
set_option linter.unusedVariables false
set_option linter.unusedSimpArgs false
/-- n instructions, and the place behind them. -/
def runN (l : List UInt8) : Nat → Option (List IV × Nat)
  | 0 => some ([], 0)
  | n + 1 => match runN l n with
    | none => none
    | some (acc, p) => if p < l.length ∧ (oneR l p).1 = 0 then some (acc ++ [(oneR l p).2.2], (oneR l p).2.1.p) else none
theorem runN_step {l : List UInt8} {n p : Nat} {acc : List IV} (h : runN l n = some (acc, p)) (hp : p < l.length) (h0 : (oneR l p).1 = 0) : runN l (n + 1) = some (acc ++ [(oneR l p).2.2], (oneR l p).2.1.p) := by
  show (match runN l n with | none => none | some (acc, p) => if p < l.length ∧ (oneR l p).1 = 0 then some (acc ++ [(oneR l p).2.2], (oneR l p).2.1.p) else none) = _
  rw [h]
  simp only
  rw [if_pos ⟨hp, h0⟩]
theorem runN_stop {l : List UInt8} {n p : Nat} {acc : List IV} (h : runN l n = some (acc, p)) (hs : ¬ (p < l.length ∧ (oneR l p).1 = 0)) : runN l (n + 1) = none := by
  show (match runN l n with | none => none | some (acc, p) => if p < l.length ∧ (oneR l p).1 = 0 then some (acc ++ [(oneR l p).2.2], (oneR l p).2.1.p) else none) = _
  rw [h]
  simp only
  rw [if_neg hs]
theorem runN_none {l : List UInt8} {n : Nat} (h : runN l n = none) : ∀ m, n ≤ m → runN l m = none
  | 0, hm => by rw [show n = 0 by omega] at h; exact h
  | m + 1, hm => by
    by_cases e : n = m + 1
    · rw [← e]; exact h
    · have ih := runN_none h m (by omega)
      show (match runN l m with | none => none | some (acc, p) => if p < l.length ∧ (oneR l p).1 = 0 then some (acc ++ [(oneR l p).2.2], (oneR l p).2.1.p) else none) = _
      rw [ih]
/-- What is read of some bytes. -/
def Out (l : List UInt8) (V : List IV) (e at_ : Int) : Prop :=
  (2048 < l.length ∧ V = [] ∧ e = 3 ∧ at_ = 0) ∨
  (l.length ≤ 2048 ∧ ∃ n acc p, runN l n = some (acc, p) ∧
    ((p = l.length ∧ V = acc ∧ e = 0 ∧ at_ = 0) ∨ (p < l.length ∧ (oneR l p).1 ≠ 0 ∧ V = [] ∧ e = (oneR l p).1 ∧ at_ = p)))
theorem Out.same {l : List UInt8} {V V' : List IV} {e e' a a' : Int} (h : Out l V e a) (h' : Out l V' e' a') : V = V' ∧ e = e' ∧ a = a' := by
  rcases h with ⟨h1, h2, h3, h4⟩ | ⟨h1, n, acc, p, hn, h⟩
  · rcases h' with ⟨_, g2, g3, g4⟩ | ⟨g1, _⟩
    · rw [h2, h3, h4, g2, g3, g4]; exact ⟨rfl, rfl, rfl⟩
    · omega
  · rcases h' with ⟨g1, _⟩ | ⟨_, m, acc', p', hm, h'⟩
    · omega
    · have stop : ∀ {n p : Nat} {acc : List IV} {V : List IV} {e a : Int}, ((p = l.length ∧ V = acc ∧ e = 0 ∧ a = 0) ∨ (p < l.length ∧ (oneR l p).1 ≠ 0 ∧ V = [] ∧ e = (oneR l p).1 ∧ a = p)) → ¬ (p < l.length ∧ (oneR l p).1 = 0) := by
        rintro n p acc V e a (⟨rfl, _⟩ | ⟨_, h, _⟩) ⟨h1, h2⟩
        · omega
        · exact h h2
      have e1 := runN_stop hn (stop (n := n) h)
      have e2 := runN_stop hm (stop (n := m) h')
      have hnm : n = m := by
        rcases Nat.lt_trichotomy n m with hlt | he | hlt
        · have := runN_none e1 m (by omega)
          rw [this] at hm; cases hm
        · exact he
        · have := runN_none e2 n (by omega)
          rw [this] at hn; cases hn
      subst hnm
      rw [hn] at hm
      simp only [Option.some.injEq, Prod.mk.injEq] at hm
      obtain ⟨rfl, rfl⟩ := hm
      rcases h with ⟨q1, q2, q3, q4⟩ | ⟨q1, q2, q3, q4, q5⟩ <;> rcases h' with ⟨p1, p2, p3, p4⟩ | ⟨p1, p2, p3, p4, p5⟩
      · rw [q2, q3, q4, p2, p3, p4]; exact ⟨rfl, rfl, rfl⟩
      · omega
      · omega
      · rw [q3, q4, q5, p3, p4, p5]; exact ⟨rfl, rfl, rfl⟩
/-- Each instruction is at least a byte long, and ends within the bytes. -/
theorem one_moves {l : List UInt8} {p : Nat} (hp : p < l.length) (h0 : (oneR l p).1 = 0) : p < (oneR l p).2.1.p ∧ (oneR l p).2.1.p ≤ l.length := by
  rcases one_law hp with ⟨_, _, h1, h2, h3, _⟩ | ⟨h, _⟩
  · exact ⟨by omega, h3⟩
  · exact absurd h0 h
end Go.Proofs.Ytbpeoclhabgcgaa
