import Derived.Test.YtckgcfkahffibaaAsk
namespace Go.Proofs.Ytckgcfkahffibaa
open Go.RowKit
set_option linter.unusedVariables false
set_option linter.unusedSimpArgs false
/-- Writes, one behind the other, until one is refused. -/
def DS.all : List (Nat × List UInt8) → DS → Int × DS
  | [], d => (0, d)
  | x :: l, d => if (d.wr x.1 x.2).1 = 0 then DS.all l (d.wr x.1 x.2).2 else d.wr x.1 x.2
theorem all_append : ∀ (A B : List (Nat × List UInt8)) (d : DS), DS.all (A ++ B) d = if (DS.all A d).1 = 0 then DS.all B (DS.all A d).2 else DS.all A d
  | [], B, d => by simp [DS.all]
  | x :: A, B, d => by
    by_cases h : (d.wr x.1 x.2).1 = 0
    · have e : ∀ l, DS.all (x :: l) d = DS.all l (d.wr x.1 x.2).2 := fun l => by simp [DS.all, h]
      rw [List.cons_append, e, e, all_append A B]
    · have e : ∀ l, DS.all (x :: l) d = d.wr x.1 x.2 := fun l => by simp [DS.all, h]
      rw [List.cons_append, e, e, if_neg h]
theorem all_snoc (A : List (Nat × List UInt8)) (x : Nat × List UInt8) (d : DS) (h : (DS.all A d).1 = 0) : DS.all (A ++ [x]) d = (DS.all A d).2.wr x.1 x.2 := by
  rw [all_append, if_pos h]
  by_cases h' : ((DS.all A d).2.wr x.1 x.2).1 = 0
  · simp only [DS.all, h', if_true]
    rw [← h']
  · simp [DS.all, h']
theorem wr_zero {d : DS} {i : Nat} {b : List UInt8} (h : (d.wr i b).1 = 0) : (d.wr i b).2.gone = d.gone ∧ (d.wr i b).2.ws = d.ws ++ [(i, b)] ∧ (d.wr i b).2.bl = (fun j => if j = i then b else d.bl j) ∧ (d.wr i b).2.ml = d.ml ∧ d.gone = false := by
  unfold DS.wr at h ⊢
  by_cases h1 : d.may i = 0
  · rw [if_neg (by omega)] at h ⊢
    by_cases h2 : d.left = 0
    · rw [if_pos h2] at h; simp at h
    · rw [if_neg h2] at h ⊢
      refine ⟨rfl, by simp [DS.put], by simp [DS.put], rfl, ?_⟩
      unfold DS.may at h1
      cases hg : d.gone with
      | false => rfl
      | true => rw [hg] at h1; split at h1 <;> simp at h1
  · rw [if_pos h1] at h; exact absurd h h1
/-- Behind writes that were all done. -/
theorem all_zero : ∀ (A : List (Nat × List UInt8)) (d : DS), (DS.all A d).1 = 0 → (DS.all A d).2.gone = d.gone ∧ (DS.all A d).2.ws = d.ws ++ A ∧ (DS.all A d).2.bl = laid d.bl A ∧ (DS.all A d).2.ml = d.ml
  | [], d, _ => ⟨rfl, by simp [DS.all], rfl, rfl⟩
  | x :: A, d, h => by
    by_cases h1 : (d.wr x.1 x.2).1 = 0
    · have e : DS.all (x :: A) d = DS.all A (d.wr x.1 x.2).2 := by simp [DS.all, h1]
      rw [e] at h ⊢
      obtain ⟨a1, a2, a3, a4⟩ := all_zero A _ h
      obtain ⟨b1, b2, b3, b4, _⟩ := wr_zero h1
      refine ⟨by rw [a1, b1], by rw [a2, b2]; simp, ?_, by rw [a4, b4]⟩
      rw [a3, b3]; rfl
    · have e : DS.all (x :: A) d = d.wr x.1 x.2 := by simp [DS.all, h1]
      rw [e] at h; exact absurd h h1
theorem laid_other {l : List (Nat × List UInt8)} {j : Nat} (h : ∀ x ∈ l, x.1 ≠ j) : ∀ f : Nat → List UInt8, laid f l j = f j := by
  induction l with
  | nil => intro f; rfl
  | cons x l ih =>
    intro f
    show laid (fun i => if i = x.1 then x.2 else f i) l j = f j
    rw [ih (fun y hy => h y (by simp [hy]))]
    rw [if_neg (fun e => h x (by simp) e.symm)]
/-- A head's byte. -/
def hb (f : Nat → List UInt8) (i : Nat) : Nat := ((f 0)[i]?.getD 0).toNat
def isFree (i : Nat) : Bool := decide (25 ≤ i ∧ i < 255)
/-- The writes of a recovery's first i steps. -/
def recW (f : Nat → List UInt8) : Nat → List (Nat × List UInt8)
  | 0 => []
  | i + 1 => recW f i ++ (if isFree (hb f (i + 1)) = true then [(hb f (i + 1), f (i + 1))] else [])
theorem recW_at (f : Nat → List UInt8) : ∀ i, ∀ x ∈ recW f i, 25 ≤ x.1 ∧ x.1 < 255
  | 0, x, h => by simp [recW] at h
  | i + 1, x, h => by
    rcases List.mem_append.1 h with h | h
    · exact recW_at f i x h
    · split at h
      · rename_i hf
        rw [List.mem_singleton.1 h]
        exact of_decide_eq_true hf
      · simp at h
def recAll (f : Nat → List UInt8) : List (Nat × List UInt8) := recW f (hb f 0) ++ (if 0 < hb f 0 then [(0, one 0)] else [])
/-- What Recover answers, and what is there then. -/
def DS.recv (d : DS) : (Int × Int) × DS :=
  if d.may 0 ≠ 0 then ((0, d.may 0), d)
  else if 24 < hb d.bl 0 then ((0, 0), d)
  else if (DS.all (recAll d.bl) d).1 = 0 then (((hb d.bl 0 : Nat), 0), (DS.all (recAll d.bl) d).2) else ((0, (DS.all (recAll d.bl) d).1), (DS.all (recAll d.bl) d).2)
theorem recW_len (f : Nat → List UInt8) : ∀ i, (recW f i).length ≤ i
  | 0 => by simp [recW]
  | i + 1 => by
    have := recW_len f i
    simp only [recW, List.length_append]
    split <;> simp <;> omega
theorem Dsk.bl_len {w : World} {k : Nat} {d : DS} {S : Nat → Prop} (h : Dsk w k d S) : ∀ i, i < 255 → (d.bl i).length = 64 := by
  obtain ⟨gb, gm, cb, cm, Wv, h, _⟩ := h
  intro i hi
  have := h.bl.len i hi
  rwa [bytesV_length] at this
theorem Dsk.gone_all {d : DS} {A : List (Nat × List UInt8)} (h : (DS.all A d).1 = 0) (hA : ∀ x ∈ A, 25 ≤ x.1) {i : Nat} (hi : i < 25) (hg : d.gone = false) : (DS.all A d).2.may i = 0 ∧ (DS.all A d).2.rd i = d.bl i := by
  obtain ⟨h1, h2, h3, h4⟩ := all_zero A d h
  have hm : (DS.all A d).2.may i = 0 := may_ok (by omega) (by rw [h1, hg])
  refine ⟨hm, ?_⟩
  unfold DS.rd
  rw [if_pos hm, h3]
  exact laid_other (fun x hx e => by have := hA x hx; omega) _
set_option maxHeartbeats 1000000 in
theorem free_any (i : Int) (w : World) : Calls Try.prog 31 #[.int .i64 i] w fun e w' => e = .returned (.bool (decide (25 ≤ i ∧ i < 255))) ∧ w' = w := by
  by_cases h1 : 25 ≤ i
  · by_cases h2 : i < 255
    · have e : decide (25 ≤ i ∧ i < 255) = true := by simp [h1, h2]
      rw [e]
      clear e
      go_enter Try.func31, Try.ntmps31
      go_wp2
      go_ret
      exact ⟨rfl, rfl⟩
    · have e : decide (25 ≤ i ∧ i < 255) = false := by simp [h1]; omega
      rw [e]
      clear e
      go_enter Try.func31, Try.ntmps31
      go_wp2
      go_ret
      exact ⟨rfl, rfl⟩
  · have e : decide (25 ≤ i ∧ i < 255) = false := by simp; omega
    rw [e]
    clear e
    go_enter Try.func31, Try.ntmps31
    go_wp2
    go_ret
    exact ⟨rfl, rfl⟩
end Go.Proofs.Ytckgcfkahffibaa
