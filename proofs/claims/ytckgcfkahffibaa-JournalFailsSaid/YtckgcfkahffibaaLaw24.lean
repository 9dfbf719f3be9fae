import Derived.Test.YtckgcfkahffibaaGroup
namespace Go.Proofs.Ytckgcfkahffibaa
open Go.RowKit
set_option linter.unusedVariables false
set_option linter.unusedSimpArgs false
/-- Power does not go. -/
def Quiet (d : DS) : Prop := d.gone = false ∧ d.left = -1
theorem quiet_wr {d : DS} (h : Quiet d) {i : Nat} (hi : i < 255) (b : List UInt8) : d.wr i b = (0, d.put i b (-1)) := by
  unfold DS.wr
  rw [if_neg (by rw [may_ok hi h.1]; omega), if_neg (by rw [h.2]; omega), h.2]; rfl
theorem all_quiet : ∀ (A : List (Nat × List UInt8)) (d : DS), Quiet d → (∀ x ∈ A, x.1 < 255) → DS.all A d = (0, { d with bl := laid d.bl A, ws := d.ws ++ A })
  | [], d, _, _ => by simp [DS.all, laid]
  | x :: A, d, h, hA => by
    have hw := quiet_wr h (hA x (by simp)) x.2
    have e : DS.all (x :: A) d = DS.all A (d.put x.1 x.2 (-1)) := by simp [DS.all, hw]
    rw [e, all_quiet A (d.put x.1 x.2 (-1)) ⟨h.1, rfl⟩ (fun y hy => hA y (by simp [hy]))]
    have hl := h.2
    cases d
    simp only at hl
    subst hl
    simp [DS.put, laid]
def idle (f : Nat → List UInt8) : Prop := hb f 0 = 0
/-- The journal holds a whole group. -/
def pend (l : List (Nat × List UInt8)) (f : Nat → List UInt8) : Prop := f 0 = headF l ∧ ∀ (i : Nat) (x : Nat × List UInt8), l[i]? = some x → f (i + 1) = x.2
theorem recv_idle {d : DS} (hg : d.gone = false) (h : idle d.bl) : d.recv = ((0, 0), d) := by
  have e : recAll d.bl = [] := by unfold recAll; rw [h]; rfl
  unfold DS.recv
  rw [if_neg (by rw [show d.may 0 = 0 from may_ok (i := 0) (by omega) hg]; omega), if_neg (by rw [h]; omega), e]
  simp [DS.all, h]
  exact h
theorem hb_head {l : List (Nat × List UInt8)} {f : Nat → List UInt8} (h : f 0 = headF l) (j : Nat) (hj : j < 64) : hb f j = (headB l j).toNat := by
  unfold hb
  rw [h]
  simp [headF, hj]
theorem pend_hb {l : List (Nat × List UInt8)} {f : Nat → List UInt8} (hg : Good l) (h : pend l f) : hb f 0 = l.length ∧ ∀ (i : Nat) (x : Nat × List UInt8), l[i]? = some x → hb f (i + 1) = x.1 := by
  have h24 := hg.len
  refine ⟨?_, fun i x hx => ?_⟩
  · rw [hb_head h.1 0 (by omega)]
    simp only [headB, if_true, UInt8.toNat_ofNat']
    omega
  · have hi := (List.getElem?_eq_some_iff.1 hx).1
    have hx1 := (hg.at_ x (List.mem_of_getElem? hx)).2.1
    rw [hb_head h.1 (i + 1) (by omega), headB_other (by omega)]
    unfold hdB
    rw [if_neg (by omega), if_pos (by omega), show i + 1 - 1 = i by omega, hx]
    simp only [Option.getD_some, UInt8.toNat_ofNat']
    omega
theorem pend_recW {l : List (Nat × List UInt8)} {f : Nat → List UInt8} (hg : Good l) (h : pend l f) : ∀ i, i ≤ l.length → recW f i = l.take i
  | 0, _ => by simp [recW]
  | i + 1, hi => by
    obtain ⟨x, hx⟩ : ∃ x, l[i]? = some x := ⟨_, List.getElem?_eq_getElem (by omega)⟩
    have hh := (pend_hb hg h).2 i x hx
    have hx1 := hg.at_ x (List.mem_of_getElem? hx)
    rw [recW, pend_recW hg h i (by omega), hh, if_pos (by unfold isFree; simp; omega), h.2 i x hx, List.take_add_one, hx]
    rfl
theorem pend_recAll {l : List (Nat × List UInt8)} {f : Nat → List UInt8} (hg : Good l) (hne : l ≠ []) (h : pend l f) : recAll f = l ++ [(0, one 0)] := by
  have hp : 0 < l.length := List.length_pos_iff.2 hne
  unfold recAll
  rw [(pend_hb hg h).1, pend_recW hg h _ (Nat.le_refl _), List.take_length, if_pos hp]
theorem laid_logW (f : Nat → List UInt8) (l : List (Nat × List UInt8)) : ∀ n j, laid f (logW l n) j = if 1 ≤ j ∧ j ≤ n then (l[j - 1]?.getD (0, [])).2 else f j
  | 0, j => by rw [if_neg (by omega)]; rfl
  | n + 1, j => by
    rw [logW, laid_append]
    by_cases e : j = 1 + n
    · subst e
      rw [if_pos ⟨by omega, by omega⟩, show 1 + n - 1 = n by omega]
      simp
    · simp only [e, if_false]
      rw [laid_logW f l n j]
      by_cases h : 1 ≤ j ∧ j ≤ n
      · rw [if_pos h, if_pos ⟨h.1, by omega⟩]
      · rw [if_neg h, if_neg (by omega)]
theorem appW_pend (f : Nat → List UInt8) (l : List (Nat × List UInt8)) : pend l (laid f (appW l)) := by
  refine ⟨by unfold appW; rw [laid_append]; simp, fun i x hx => ?_⟩
  have hi := (List.getElem?_eq_some_iff.1 hx).1
  unfold appW
  rw [laid_append]
  simp only [Nat.add_one_ne_zero, if_false]
  rw [laid_logW, if_pos ⟨by omega, by omega⟩, show i + 1 - 1 = i by omega, hx]
  rfl
theorem logW_at (l : List (Nat × List UInt8)) : ∀ n, ∀ x ∈ logW l n, 1 ≤ x.1 ∧ x.1 ≤ n
  | 0, x, h => by simp [logW] at h
  | n + 1, x, h => by
    rcases List.mem_append.1 h with h | h
    · have := logW_at l n x h; omega
    · rw [List.mem_singleton.1 h]; exact ⟨by show 1 ≤ 1 + n; omega, by show 1 + n ≤ n + 1; omega⟩
theorem appW_at (l : List (Nat × List UInt8)) (h24 : l.length ≤ 24) : ∀ x ∈ appW l, x.1 < 25 := fun x h => by
  rcases List.mem_append.1 h with h | h
  · have := logW_at l _ x h; omega
  · rw [List.mem_singleton.1 h]; show 0 < 25; omega
/-- All writes of one group. -/
def fullW (l : List (Nat × List UInt8)) : List (Nat × List UInt8) := if l = [] then [] else appW l ++ (l ++ [(0, one 0)])
theorem fullW_at (l : List (Nat × List UInt8)) (hg : Good l) : ∀ x ∈ fullW l, x.1 < 255 := by
  intro x hx
  unfold fullW at hx
  split at hx
  · simp at hx
  · rcases List.mem_append.1 hx with h | h
    · have := appW_at l hg.len x h; omega
    · rcases List.mem_append.1 h with h | h
      · exact (hg.at_ x h).2.1
      · rw [List.mem_singleton.1 h]; show 0 < 255; omega
theorem laid_app (f : Nat → List UInt8) (A B : List (Nat × List UInt8)) : laid f (A ++ B) = laid (laid f A) B := by simp [laid, List.foldl_append]
theorem app_quiet {d : DS} {l : List (Nat × List UInt8)} (hq : Quiet d) (hi : idle d.bl) (hg : Good l) : d.app l = (0, { d with bl := laid d.bl (fullW l), ws := d.ws ++ fullW l }) := by
  by_cases hne : l = []
  · subst hne
    simp [DS.app, fullW, laid]
  · have h1 := recv_idle hq.1 hi
    have h2 := all_quiet (appW l) d hq (fun x hx => by have := appW_at l hg.len x hx; omega)
    have hp : pend l (laid d.bl (appW l)) := appW_pend d.bl l
    have hra := pend_recAll hg hne hp
    have hh := (pend_hb hg hp).1
    have h24 := hg.len
    have h3 : DS.all (l ++ [(0, one 0)]) { d with bl := laid d.bl (appW l), ws := d.ws ++ appW l } = (0, { d with bl := laid (laid d.bl (appW l)) (l ++ [(0, one 0)]), ws := d.ws ++ appW l ++ (l ++ [(0, one 0)]) }) :=
      all_quiet _ _ ⟨hq.1, hq.2⟩ (fun x hx => by
        rcases List.mem_append.1 hx with h | h
        · exact (hg.at_ x h).2.1
        · rw [List.mem_singleton.1 h]; show 0 < 255; omega)
    have h4 : ({ d with bl := laid d.bl (appW l), ws := d.ws ++ appW l } : DS).recv = ((((l.length : Nat) : Int), 0), { d with bl := laid (laid d.bl (appW l)) (l ++ [(0, one 0)]), ws := d.ws ++ appW l ++ (l ++ [(0, one 0)]) }) := by
      unfold DS.recv
      rw [if_neg (by rw [show ({ d with bl := laid d.bl (appW l), ws := d.ws ++ appW l } : DS).may 0 = 0 from may_ok (i := 0) (by omega) hq.1]; omega)]
      simp only [hra, hh, h3]
      rw [if_neg (by omega)]
      simp
    unfold DS.app
    rw [if_neg hne, h1]
    simp only [h2, h4, ne_eq, not_true_eq_false, if_false, fullW, hne]
    rw [laid_app d.bl (appW l), List.append_assoc]
theorem fullW_idle {f : Nat → List UInt8} {l : List (Nat × List UInt8)} (hi : idle f) : idle (laid f (fullW l)) := by
  unfold fullW
  split
  · exact hi
  · unfold idle hb
    rw [laid_app, laid_append]
    simp [one]
/-- Behind a group the Free blocks are as they were, but for the group's. -/
theorem fullW_free {f : Nat → List UInt8} {l : List (Nat × List UInt8)} (h24 : l.length ≤ 24) (j : Nat) (hj : 25 ≤ j) : laid f (fullW l) j = laid f l j := by
  unfold fullW
  split
  · rename_i h; rw [h]
  · rw [laid_app, laid_append]
    show (if j = 0 then one 0 else laid (laid f (appW l)) l j) = laid f l j
    rw [if_neg (by omega)]
    have hz : ∀ (A : List (Nat × List UInt8)) (f g : Nat → List UInt8), f j = g j → laid f A j = laid g A j := by
      intro A
      induction A with
      | nil => intro f g h; exact h
      | cons x A ih =>
        intro f g h
        show laid (fun i => if i = x.1 then x.2 else f i) A j = laid (fun i => if i = x.1 then x.2 else g i) A j
        apply ih
        show (if j = x.1 then x.2 else f j) = if j = x.1 then x.2 else g j
        rw [h]
    apply hz
    exact laid_other (fun x hx e => by have := appW_at l h24 x hx; omega) f
end Go.Proofs.Ytckgcfkahffibaa
