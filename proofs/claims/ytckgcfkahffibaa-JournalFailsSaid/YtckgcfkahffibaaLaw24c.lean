import Derived.Test.YtckgcfkahffibaaHolds
namespace Go.Proofs.Ytckgcfkahffibaa
open Go.RowKit
set_option linter.unusedVariables false
set_option linter.unusedSimpArgs false
abbrev Wl := List (Nat × List UInt8)
/-- The former state. -/
def OldS (o f : Nat → List UInt8) : Prop := idle f ∧ ∀ j, 25 ≤ j → f j = o j
/-- The journal holds the whole group; the others are as they were. -/
def PendS (o : Nat → List UInt8) (l : Wl) (f : Nat → List UInt8) : Prop := pend l f ∧ ∀ j, 25 ≤ j → j ∉ l.map (·.1) → f j = o j
/-- The group is there. -/
def NewS (o : Nat → List UInt8) (l : Wl) (f : Nat → List UInt8) : Prop := idle f ∧ ∀ j, 25 ≤ j → f j = laid o l j
theorem laid_in {l : Wl} {j : Nat} (h : j ∈ l.map (·.1)) : ∀ f g : Nat → List UInt8, laid f l j = laid g l j := by
  induction l with
  | nil => simp at h
  | cons x l ih =>
    intro f g
    show laid (fun i => if i = x.1 then x.2 else f i) l j = laid (fun i => if i = x.1 then x.2 else g i) l j
    by_cases hl : j ∈ l.map (·.1)
    · exact ih hl _ _
    · have hx : j = x.1 := by
        rcases List.mem_cons.1 (by simpa using h : j ∈ x.1 :: l.map (·.1)) with h | h
        · exact h
        · exact absurd h hl
      have hn : ∀ y ∈ l, y.1 ≠ j := fun y hy e => hl (List.mem_map.2 ⟨y, hy, e⟩)
      rw [laid_other hn, laid_other hn, if_pos hx, if_pos hx]
theorem laid_out {l : Wl} {j : Nat} (h : j ∉ l.map (·.1)) (f : Nat → List UInt8) : laid f l j = f j := laid_other (fun y hy e => h (List.mem_map.2 ⟨y, hy, e⟩)) f
theorem pend_keep {l A : Wl} {f : Nat → List UInt8} (h24 : l.length ≤ 24) (h : pend l f) (hA : ∀ x ∈ A, 25 ≤ x.1) : pend l (laid f A) := by
  refine ⟨by rw [laid_other (fun x hx e => by have := hA x hx; omega), h.1], fun i x hx => ?_⟩
  have hi := (List.getElem?_eq_some_iff.1 hx).1
  rw [laid_other (fun y hy e => by have := hA y hy; omega), h.2 i x hx]
theorem idle_of {f g : Nat → List UInt8} (h : idle f) (e : g 0 = f 0) : idle g := by unfold idle hb at *; rw [e]; exact h
/-- A group's writes, cut. -/
theorem full_old {o : Nat → List UInt8} {l : Wl} (h : idle o) (hg : Good l) (n : Nat) (hn : n ≤ l.length) : OldS o (laid o ((fullW l).take n)) := by
  unfold fullW
  split
  · simp only [List.take_nil]; exact ⟨h, fun _ _ => rfl⟩
  · have e : (appW l ++ (l ++ [(0, one 0)])).take n = (logW l l.length).take n := by
      unfold appW
      rw [List.append_assoc, List.take_append_of_le_length (by rw [logW_len]; exact hn)]
    rw [e]
    have hA : ∀ x ∈ (logW l l.length).take n, 1 ≤ x.1 ∧ x.1 ≤ 24 := fun x hx => by have := logW_at l _ x (List.mem_of_mem_take hx); have := hg.len; omega
    exact ⟨idle_of h (laid_other (fun x hx e => by have := hA x hx; omega) o), fun j hj => laid_other (fun x hx e => by have := hA x hx; omega) o⟩
theorem full_pend {o : Nat → List UInt8} {l : Wl} (hne : l ≠ []) (hg : Good l) (n : Nat) (h1 : l.length < n) (h2 : n ≤ 2 * l.length + 1) : PendS o l (laid o ((fullW l).take n)) := by
  unfold fullW
  rw [if_neg hne]
  have hal : (appW l).length = l.length + 1 := by unfold appW; rw [List.length_append, logW_len]; rfl
  have e : (appW l ++ (l ++ [(0, one 0)])).take n = appW l ++ l.take (n - (l.length + 1)) := by
    rw [List.take_append, hal, List.take_of_length_le (by omega), List.take_append_of_le_length (by omega)]
  rw [e, laid_app]
  have hA : ∀ x ∈ l.take (n - (l.length + 1)), 25 ≤ x.1 := fun x hx => (hg.at_ x (List.mem_of_mem_take hx)).1
  refine ⟨pend_keep hg.len (appW_pend o l) hA, fun j hj hn => ?_⟩
  rw [laid_out (fun h => hn (by rw [List.map_take] at h; exact List.mem_of_mem_take h))]
  exact laid_other (fun x hx e => by have := appW_at l hg.len x hx; omega) o
theorem full_new {o : Nat → List UInt8} {l : Wl} (h : idle o) (hg : Good l) (n : Nat) (hn : (fullW l).length ≤ n) : NewS o l (laid o ((fullW l).take n)) := by
  rw [List.take_of_length_le hn]
  exact ⟨fullW_idle h, fun j hj => fullW_free hg.len j hj⟩
theorem fullW_length (l : Wl) : (fullW l).length = if l = [] then 0 else 2 * l.length + 2 := by
  unfold fullW
  split
  · rfl
  · unfold appW
    simp only [List.length_append, logW_len, List.length_singleton]
    omega
/-- What holds of a cut state: A: nothing was written; B: all was. -/
structure StS (A B : Prop) (o : Nat → List UInt8) (l : Wl) (f : Nat → List UInt8) : Prop where
  a : A → OldS o f
  b : B → NewS o l f
  s : OldS o f ∨ (l ≠ [] ∧ PendS o l f) ∨ NewS o l f
theorem full_st {o : Nat → List UInt8} {l : Wl} (h : idle o) (hg : Good l) (n : Nat) : StS (n = 0) (n = (fullW l).length) o l (laid o ((fullW l).take n)) := by
  refine ⟨fun hn => full_old h hg n (by omega), fun hn => full_new h hg n (by omega), ?_⟩
  by_cases h1 : n ≤ l.length
  · exact .inl (full_old h hg n h1)
  · by_cases h2 : (fullW l).length ≤ n
    · exact .inr (.inr (full_new h hg n h2))
    · have hl := fullW_length l
      by_cases hne : l = []
      · rw [if_pos hne] at hl; omega
      · rw [if_neg hne] at hl
        exact .inr (.inl ⟨hne, full_pend hne hg n (by omega) (by omega)⟩)
def DS.rc (d : DS) : DS := { d with bl := laid d.bl (recAll d.bl), ws := d.ws ++ recAll d.bl }
theorem recAll_idle {f : Nat → List UInt8} (h : idle f) : recAll f = [] := by unfold recAll; rw [h]; rfl
theorem rc_idle {d : DS} (h : idle d.bl) : d.rc = d := by unfold DS.rc; rw [recAll_idle h]; cases d; simp [laid]
/-- A recovery on a quiet disk, from any cut state. -/
theorem recv_st {A B : Prop} {o : Nat → List UInt8} {l : Wl} {d : DS} (hq : Quiet d) (hg : Good l) (h : StS A B o l d.bl) : ∃ n : Nat, d.recv = (((n : Int), 0), d.rc) := by
  have hid : idle d.bl → ∃ n : Nat, d.recv = (((n : Int), 0), d.rc) := fun hi => ⟨0, by rw [rc_idle hi]; exact recv_idle hq.1 hi⟩
  rcases h.s with h | ⟨hne, h⟩ | h
  · exact hid h.1
  · have hra := pend_recAll hg hne h.1
    have hh := (pend_hb hg h.1).1
    have h24 := hg.len
    have h3 := all_quiet (recAll d.bl) d hq (fun x hx => by
      rw [hra] at hx
      rcases List.mem_append.1 hx with h | h
      · exact (hg.at_ x h).2.1
      · rw [List.mem_singleton.1 h]; show 0 < 255; omega)
    refine ⟨l.length, ?_⟩
    unfold DS.recv DS.rc
    rw [if_neg (by rw [show d.may 0 = 0 from may_ok (i := 0) (by omega) hq.1]; omega), if_neg (by omega), h3, hh]
    simp
  · exact hid h.1
theorem pend_recd {o : Nat → List UInt8} {l : Wl} {f : Nat → List UInt8} (hg : Good l) (h : PendS o l f) (m : Nat) : (m ≤ l.length → PendS o l (laid f ((l ++ [(0, one 0)]).take m))) ∧ (l.length < m → NewS o l (laid f ((l ++ [(0, one 0)]).take m))) := by
  refine ⟨fun hm => ?_, fun hm => ?_⟩
  · rw [List.take_append_of_le_length hm]
    refine ⟨pend_keep hg.len h.1 (fun x hx => (hg.at_ x (List.mem_of_mem_take hx)).1), fun j hj hn => ?_⟩
    rw [laid_out (fun h => hn (by rw [List.map_take] at h; exact List.mem_of_mem_take h)), h.2 j hj hn]
  · rw [List.take_of_length_le (by simp; omega)]
    refine ⟨by unfold idle hb; rw [laid_append]; simp [one], fun j hj => ?_⟩
    rw [laid_append]
    show (if j = 0 then one 0 else laid f l j) = _
    rw [if_neg (by omega)]
    by_cases hin : j ∈ l.map (·.1)
    · exact laid_in hin _ _
    · rw [laid_out hin, laid_out hin, h.2 j hj hin]
/-- Behind a recovery the state is the former one, or the new one. -/
theorem rc_st {A B : Prop} {o : Nat → List UInt8} {l : Wl} {d : DS} (hg : Good l) (h : StS A B o l d.bl) : (A → OldS o d.rc.bl) ∧ (B → NewS o l d.rc.bl) ∧ (OldS o d.rc.bl ∨ NewS o l d.rc.bl) := by
  have hid : idle d.bl → d.rc.bl = d.bl := fun hi => by rw [rc_idle hi]
  rcases h.s with hs | ⟨hne, hs⟩ | hs
  · rw [hid hs.1]; exact ⟨h.a, h.b, .inl hs⟩
  · have hra := pend_recAll hg hne hs.1
    have hh := (pend_hb hg hs.1).1
    have hnew : NewS o l d.rc.bl := by
      have := (pend_recd hg hs (l.length + 1)).2 (by omega)
      rw [List.take_of_length_le (by simp)] at this
      unfold DS.rc
      rw [hra]; exact this
    have hni : ¬ idle d.bl := fun hi => hne (List.length_eq_zero_iff.1 (by rw [← hh]; exact hi))
    exact ⟨fun ha => absurd (h.a ha).1 hni, fun _ => hnew, .inr hnew⟩
  · rw [hid hs.1]; exact ⟨h.a, h.b, .inr hs⟩
/-- A recovery that is cut off leaves such a state again. -/
theorem cut_st {A B : Prop} {o : Nat → List UInt8} {l : Wl} {d : DS} (hg : Good l) (h : StS A B o l d.bl) (m : Nat) : StS A B o l (laid d.bl ((recAll d.bl).take m)) := by
  have hid : idle d.bl → laid d.bl ((recAll d.bl).take m) = d.bl := fun hi => by rw [recAll_idle hi]; simp [laid]
  rcases h.s with hs | ⟨hne, hs⟩ | hs
  · rw [hid hs.1]; exact h
  · have hra := pend_recAll hg hne hs.1
    have hh := (pend_hb hg hs.1).1
    have hni : ¬ idle d.bl := fun hi => hne (List.length_eq_zero_iff.1 (by rw [← hh]; exact hi))
    have hnn : ¬ B := fun hb => hni (h.b hb).1
    rw [hra]
    refine ⟨fun ha => absurd (h.a ha).1 hni, fun hb => absurd hb hnn, ?_⟩
    by_cases hm : m ≤ l.length
    · exact .inr (.inl ⟨hne, (pend_recd hg hs m).1 hm⟩)
    · exact .inr (.inr ((pend_recd hg hs m).2 (by omega)))
  · rw [hid hs.1]; exact h
end Go.Proofs.Ytckgcfkahffibaa
