import Derived.Test.YtckgcfkahffibaaBag2
namespace Go.Proofs.Ytckgcfkahffibaa
open Go.RowKit
set_option linter.unusedVariables false
set_option linter.unusedSimpArgs false
/-- Writes while power lasts. -/
theorem all_ok : ∀ (A : Wl) (d : DS), d.gone = false → (A.length : Int) ≤ d.left → (∀ x ∈ A, x.1 < 255) → DS.all A d = (0, { d with bl := laid d.bl A, ws := d.ws ++ A, left := d.left - A.length })
  | [], d, _, _, _ => by simp [DS.all, laid]
  | x :: A, d, hg, hl, hA => by
    have hl' : ((A.length : Int) + 1) ≤ d.left := by simpa using hl
    have hw := wr_ok (d := d) (i := x.1) (hA x (by simp)) hg (by omega) x.2
    have e : DS.all (x :: A) d = DS.all A (d.put x.1 x.2 (d.left - 1)) := by simp [DS.all, hw]
    have hp : (d.put x.1 x.2 (d.left - 1)).left = d.left - 1 := rfl
    rw [e, all_ok A (d.put x.1 x.2 (d.left - 1)) hg (by rw [hp]; omega) (fun y hy => hA y (by simp [hy]))]
    simp only [DS.put, laid, List.foldl_cons, List.length_cons, List.append_assoc, List.singleton_append]
    congr 2
    omega
/-- Power goes within the writes. -/
theorem all_no : ∀ (A : Wl) (n : Nat) (d : DS), d.gone = false → d.left = (n : Int) → n < A.length → (∀ x ∈ A, x.1 < 255) → ∃ dd, DS.all A d = (37, dd) ∧ dd.ml = d.ml ∧ dd.ws = d.ws ++ A.take n
  | [], n, d, _, _, h, _ => by simp at h
  | x :: A, 0, d, hg, hl, _, hA => by
    have hw := wr_end (d := d) (i := x.1) (hA x (by simp)) hg hl x.2
    exact ⟨{ d with gone := true }, by simp [DS.all, hw], rfl, by simp⟩
  | x :: A, n + 1, d, hg, hl, hn, hA => by
    have hw := wr_ok (d := d) (i := x.1) (hA x (by simp)) hg (by omega) x.2
    have e : DS.all (x :: A) d = DS.all A (d.put x.1 x.2 (d.left - 1)) := by simp [DS.all, hw]
    obtain ⟨dd, h1, h2, h3⟩ := all_no A n (d.put x.1 x.2 (d.left - 1)) hg (by show d.left - 1 = _; omega) (by simpa using hn) (fun y hy => hA y (by simp [hy]))
    exact ⟨dd, by rw [e, h1], h2, by rw [h3]; simp [DS.put]⟩
theorem all_left (A : Wl) (n : Nat) (d : DS) (hg : d.gone = false) (hl : d.left = (n : Int)) (hA : ∀ x ∈ A, x.1 < 255) : ∃ dd, DS.all A d = ((if A.length ≤ n then 0 else 37), dd) ∧ dd.ml = d.ml ∧ dd.ws = d.ws ++ A.take n := by
  by_cases h : A.length ≤ n
  · refine ⟨{ d with bl := laid d.bl A, ws := d.ws ++ A, left := d.left - A.length }, by rw [all_ok A d hg (by omega) hA, if_pos h], rfl, ?_⟩
    rw [List.take_of_length_le h]
  · obtain ⟨dd, h1, h2, h3⟩ := all_no A n d hg hl (by omega) hA
    exact ⟨dd, by rw [h1, if_neg h], h2, h3⟩
theorem app_left {d : DS} {l : Wl} {n : Nat} (hg : d.gone = false) (hl : d.left = (n : Int)) (hi : idle d.bl) (hG : Good l) :
    ∃ dd, d.app l = ((if (fullW l).length ≤ n then 0 else 37), dd) ∧ dd.ml = d.ml ∧ dd.ws = d.ws ++ (fullW l).take n := by
  by_cases hne : l = []
  · subst hne
    exact ⟨d, by simp [DS.app, fullW], rfl, by simp [fullW]⟩
  · have h1 := recv_idle hg hi
    have hA : ∀ x ∈ appW l, x.1 < 255 := fun x hx => by have := appW_at l hG.len x hx; omega
    have hC : ∀ x ∈ l ++ [(0, one 0)], x.1 < 255 := fun x hx => by
      rcases List.mem_append.1 hx with h | h
      · exact (hG.at_ x h).2.1
      · rw [List.mem_singleton.1 h]; show 0 < 255; omega
    have hfl := fullW_length l
    rw [if_neg hne] at hfl
    have hal : (appW l).length = l.length + 1 := by unfold appW; rw [List.length_append, logW_len]; rfl
    have hf : fullW l = appW l ++ (l ++ [(0, one 0)]) := by unfold fullW; rw [if_neg hne]
    unfold DS.app
    rw [if_neg hne, h1]
    simp only [ne_eq, not_true_eq_false, if_false]
    by_cases hn : (appW l).length ≤ n
    · have h2 := all_ok (appW l) d hg (by omega) hA
      have hp : pend l (laid d.bl (appW l)) := appW_pend d.bl l
      have hra := pend_recAll hG hne hp
      have hh := (pend_hb hG hp).1
      have h24 := hG.len
      generalize hd' : ({ d with bl := laid d.bl (appW l), ws := d.ws ++ appW l, left := d.left - (appW l).length } : DS) = d' at h2
      have e1 : d'.gone = false := by rw [← hd']; exact hg
      have e2 : d'.left = ((n - (appW l).length : Nat) : Int) := by rw [← hd']; show d.left - _ = _; omega
      have e3 : d'.bl = laid d.bl (appW l) := by rw [← hd']
      have e4 : d'.ws = d.ws ++ appW l := by rw [← hd']
      have e5 : d'.ml = d.ml := by rw [← hd']
      obtain ⟨dd, g1, g2, g3⟩ := all_left (l ++ [(0, one 0)]) (n - (appW l).length) d' e1 e2 hC
      have hlc : (l ++ [(0, one 0)]).length = l.length + 1 := by simp
      have h4 : d'.recv = ((if (fullW l).length ≤ n then ((l.length : Nat) : Int) else 0, if (fullW l).length ≤ n then 0 else 37), dd) := by
        unfold DS.recv
        rw [if_neg (by rw [show d'.may 0 = 0 from may_ok (i := 0) (by omega) e1]; omega), e3, hra, hh, if_neg (by omega), g1]
        by_cases hq : (l ++ [(0, one 0)]).length ≤ n - (appW l).length
        · have : (fullW l).length ≤ n := by omega
          simp only [if_pos hq, if_pos this, if_true]
        · have : ¬ (fullW l).length ≤ n := by omega
          simp only [if_neg hq, if_neg this]
          simp
      refine ⟨dd, ?_, by rw [g2, e5], ?_⟩
      · rw [h2]
        simp only [h4, not_true_eq_false, if_false]
      · rw [g3, e4, hf, List.append_assoc]
        congr 1
        rw [List.take_append (l₁ := appW l), List.take_of_length_le hn]
    · obtain ⟨dd, g1, g2, g3⟩ := all_left (appW l) n d hg hl hA
      have : ¬ (fullW l).length ≤ n := by omega
      refine ⟨dd, ?_, g2, ?_⟩
      · rw [g1, if_neg hn, if_neg this]; simp
      · rw [g3, hf, List.take_append_of_le_length (by omega)]
theorem recv_left {A B : Prop} {o : Blks} {l : Wl} {d : DS} {m : Nat} (hg : d.gone = false) (hl : d.left = (m : Int)) (hG : Good l) (h : StS A B o l d.bl) :
    ∃ (z f : Int) (dd : DS), d.recv = ((z, f), dd) ∧ (f = 0 ∨ f = 37) ∧ dd.ml = d.ml ∧ dd.ws = d.ws ++ (recAll d.bl).take m := by
  have hid : idle d.bl → ∃ (z f : Int) (dd : DS), d.recv = ((z, f), dd) ∧ (f = 0 ∨ f = 37) ∧ dd.ml = d.ml ∧ dd.ws = d.ws ++ (recAll d.bl).take m := fun hi => ⟨0, 0, d, recv_idle hg hi, .inl rfl, rfl, by rw [recAll_idle hi]; simp⟩
  rcases h.s with h | ⟨hne, h⟩ | h
  · exact hid h.1
  · have hra := pend_recAll hG hne h.1
    have hh := (pend_hb hG h.1).1
    have h24 := hG.len
    obtain ⟨dd, g1, g2, g3⟩ := all_left (recAll d.bl) m d hg hl (fun x hx => by
      rw [hra] at hx
      rcases List.mem_append.1 hx with h | h
      · exact (hG.at_ x h).2.1
      · rw [List.mem_singleton.1 h]; show 0 < 255; omega)
    unfold DS.recv
    rw [if_neg (by rw [show d.may 0 = 0 from may_ok (i := 0) (by omega) hg]; omega), if_neg (by omega), g1]
    by_cases hq : (recAll d.bl).length ≤ m
    · exact ⟨_, _, dd, by rw [if_pos (by simp [hq])], .inl rfl, g2, g3⟩
    · exact ⟨0, 37, dd, by simp [hq], .inr rfl, g2, g3⟩
  · exact hid h.1
/-- A cut state: B: all was written. -/
theorem full_st' {o : Blks} {l : Wl} (h : idle o) (hg : Good l) (n : Nat) : StS (n = 0) ((fullW l).length ≤ n) o l (laid o ((fullW l).take n)) :=
  ⟨(full_st h hg n).a, fun hn => full_new h hg n hn, (full_st h hg n).s⟩
/-- Two arrays of blocks compared. -/
theorem same46 {f g : Blks} (hf : B64 f) (hg : B64 g) : ∃ b : Bool, (∀ w, (binOp .eql 46 (.agg (flatV f).toArray) (.agg (flatV g).toArray)).run Try.prog w = .ok (.bool b) w) ∧ ((∀ j, j < 255 → f j = g j) → b = true) := by
  have hX := fun j hj => flatV_at hf j hj
  have hY := fun j hj => flatV_at hg j hj
  generalize flatV f = F at *
  generalize flatV g = G at *
  by_cases h : ∀ j, j < 255 → f j = g j
  · refine ⟨true, fun w => ?_, fun _ => rfl⟩
    obtain ⟨r, hr, hi⟩ := eq46' F G f g hf hg hX hY w
    rw [run_eql_struct, hr, hi.2 h]; rfl
  · refine ⟨false, fun w => ?_, fun h' => absurd h' h⟩
    obtain ⟨r, hr, hi⟩ := eq46' F G f g hf hg hX hY w
    have : r = false := by
      cases r with
      | false => rfl
      | true => exact absurd (hi.1 rfl) h
    rw [run_eql_struct, hr, this]; rfl
section
variable {w wr : World} {k : Nat} {d : DS} {S : Nat → Prop} {vs : List (Nat × Blks)} {os : List (Value × Wl)} {ds : List (Nat × DS × (Nat → Prop))} {V : Value} {l : Wl}
theorem bag_fail (h : Bag w wr k d S vs os ds) (n : Nat) (hn : n ≤ 1000) : Calls Try.prog 20 #[.pointer (some ⟨k, 0, none⟩), .int .i64 n] wr fun e w' => e = .returned (.tuple #[]) ∧ Bag w w' k { d with left := (n : Int) } S vs os ds := by
  refine (fail_dsk k d S n (by omega) wr h.dd).mono ?_
  rintro e w' ⟨rfl, hd, hu⟩
  have hk : S k := by
    obtain ⟨gb, gm, cb, cm, Wv, _, rfl⟩ := h.dd
    exact .inl rfl
  rw [Int.max_eq_left (by omega)] at hd
  exact ⟨rfl, h.step hd (hu.mono (fun j _ e => by rw [e]; exact hk)) (fun j hj => .inl hj)⟩
theorem bag_applyX {r : Int} {dd : DS} (h : Bag w wr k d S vs os ds) (hn : d.ws.length ≤ 800000) (hg : Good l) (hm : (V, l) ∈ os) (hr : d.app l = (r, dd)) :
    Calls Try.prog 23 #[.pointer (some ⟨k, 0, none⟩), V] wr fun e w' => e = .returned (.int .i64 r) ∧ ∃ S', Bag w w' k dd S' vs os ds := by
  have hw := h.wl hg hm
  refine (apply_dsk k d S wr h.dd hn V l hw.1 hw.2 hg).mono ?_
  rw [hr]
  rintro e w5 ⟨rfl, S5, hd, hA, hs⟩
  exact ⟨rfl, S5, h.step hd hA hs⟩
theorem bag_recoverX {n f : Int} {d' : DS} (h : Bag w wr k d S vs os ds) (hn : d.ws.length ≤ 900000) (hr : d.recv = ((n, f), d')) :
    Calls Try.prog 24 #[.pointer (some ⟨k, 0, none⟩)] wr fun e w' => e = .returned (.tuple #[.int .i64 n, .int .i64 f]) ∧ ∃ S', Bag w w' k d' S' vs os ds := by
  refine (recover_dsk k d S wr h.dd hn).mono ?_
  rw [hr]
  rintro e w5 ⟨rfl, S5, hd, hA, hs⟩
  exact ⟨rfl, S5, h.step hd hA hs⟩
end
end Go.Proofs.Ytckgcfkahffibaa
