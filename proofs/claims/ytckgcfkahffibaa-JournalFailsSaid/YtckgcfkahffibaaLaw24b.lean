import Derived.Test.YtckgcfkahffibaaKnown24
namespace Go.Proofs.Ytckgcfkahffibaa
open Go.RowKit
set_option linter.unusedVariables false
set_option linter.unusedSimpArgs false
theorem quiet_fr {d : DS} (h : Quiet d) (j : Nat) (hj : j < 255) : d.fr j = if 25 ≤ j then d.bl j else one 0 := by
  unfold DS.fr DS.rd
  by_cases h25 : 25 ≤ j
  · rw [if_pos h25, if_pos h25, if_pos (may_ok hj h.1)]; rfl
  · rw [if_neg h25, if_neg h25]
theorem neq46 {F : List Value} {f : Nat → List UInt8} (hf : B64 f) (hF : F = flatV f) (w : World) : (binOp .neq 46 (.agg F.toArray) (.agg F.toArray)).run Try.prog w = .ok (.bool false) w := by
  have h := fun j hj => flatV_at hf j hj
  rw [← hF] at h
  obtain ⟨r, hr, hi⟩ := eq46' F F f f hf hf h h w
  rw [run_neq_struct, hr, hi.2 (fun _ _ => rfl)]; rfl
theorem eql46 {F : List Value} {f : Nat → List UInt8} (hf : B64 f) (hF : F = flatV f) (w : World) : (binOp .eql 46 (.agg F.toArray) (.agg F.toArray)).run Try.prog w = .ok (.bool true) w := by
  have h := fun j hj => flatV_at hf j hj
  rw [← hF] at h
  obtain ⟨r, hr, hi⟩ := eq46' F F f f hf hf h h w
  rw [run_eql_struct, hr, hi.2 (fun _ _ => rfl)]; rfl
theorem fullW_len (l : List (Nat × List UInt8)) (h24 : l.length ≤ 24) : (fullW l).length ≤ 50 := by
  unfold fullW
  split
  · simp
  · unfold appW
    simp only [List.length_append, logW_len, List.length_singleton]
    omega
/-- Two arrays of blocks that agree from 25 on, laid over with a group. -/
theorem laid_agree (l : List (Nat × List UInt8)) : ∀ (f g : Nat → List UInt8) (j : Nat), f j = g j → laid f l j = laid g l j := by
  induction l with
  | nil => intro f g j h; exact h
  | cons x l ih =>
    intro f g j h
    show laid (fun i => if i = x.1 then x.2 else f i) l j = laid (fun i => if i = x.1 then x.2 else g i) l j
    apply ih
    show (if j = x.1 then x.2 else f j) = if j = x.1 then x.2 else g j
    rw [h]
def DS.with (d : DS) (l : List (Nat × List UInt8)) : DS := { d with bl := laid d.bl (fullW l), ws := d.ws ++ fullW l }
theorem with_quiet {d : DS} {l : List (Nat × List UInt8)} (h : Quiet d) : Quiet (d.with l) := h
theorem with_fr {d : DS} {l : List (Nat × List UInt8)} (h : Quiet d) (hg : Good l) {f : Nat → List UInt8} (hf : ∀ j, j < 255 → f j = d.fr j) (j : Nat) (hj : j < 255) : laid f l j = (d.with l).fr j := by
  rw [quiet_fr (with_quiet h) j hj]
  have h1 := hf j hj
  rw [quiet_fr h j hj] at h1
  by_cases h25 : 25 ≤ j
  · rw [if_pos h25] at h1 ⊢
    show _ = laid d.bl (fullW l) j
    rw [fullW_free hg.len j h25]
    exact laid_agree l f d.bl j h1
  · rw [if_neg h25] at h1 ⊢
    rw [laid_other (fun x hx e => by have := (hg.at_ x hx).1; omega), h1]
/-- A quiet disk beside what its Free blocks should hold. -/
structure HW (w wr : World) (k g4 n : Nat) (S : Nat → Prop) (d : DS) (f : Nat → List UInt8) : Prop where
  dd : Dsk wr k d S
  q : Quiet d
  i : idle d.bl
  v : Var46 wr g4 f
  e : ∀ j, j < 255 → f j = d.fr j
  s : ∀ j, S j → w.heap.size ≤ j
  g : ¬ S g4 ∧ w.heap.size ≤ g4
  u : Upd (fun _ => False) w wr
  n : d.ws.length ≤ 100 * n
theorem HW.q' {w wr wx : World} {k g4 n : Nat} {S : Nat → Prop} {d : DS} {f : Nat → List UInt8} (h : HW w wr k g4 n S d f) (hu : Upd (fun _ => False) wr wx) : HW w wx k g4 n S d f :=
  ⟨h.dd.upd0 hu, h.q, h.i, h.v.upd hu (fun h => h), h.e, h.s, h.g, h.u.trans' hu, h.n⟩
section
open Go.ChangeShapes Go.WideShapes Go.Deep
variable {H : Type} {enc : TypeId × Value → H} {w : World} {base : Nat} {spare : Nat → Bool} {held : Bool}
/-- A slice of slices of puts. -/
def IBs (w : World) (v : Value) (LL : List (List (Int × UInt8))) : Prop :=
  ∃ ao cap, v = .slice ao LL.length cap ∧ (LL = [] ∨ ∃ b off, ao = some ⟨b, off, none⟩ ∧ ∀ i (h : i < LL.length), ∃ u, w.cell? ⟨b, off + i, none⟩ = some u ∧ IB w 2 0 1 u LL[i] ∧ (LL[i]).length ≤ 9223372036854775807)
theorem put_open {fuel : Nat} {v : Value} {d : DataW H × List MemPlace} (h : DataW.trod enc Try.prog w base spare held fuel 49 [v] = some d) : ∃ L, IB w 2 0 1 v L ∧ L.length ≤ 9223372036854775807 := by
  have hv : ∃ ao len cap, v = .slice ao len cap := by
    rcases open_slice Try.underlying49 h with ⟨hcs, _⟩ | ⟨a, l, c, m, n, D, Pl, hcs, _⟩
    · simp only [List.cons.injEq, and_true] at hcs
      exact ⟨_, _, _, hcs⟩
    · simp only [List.cons.injEq, and_true] at hcs
      exact ⟨_, _, _, hcs⟩
  obtain ⟨ao, len, cap, rfl⟩ := hv
  obtain ⟨hl, hm, _⟩ := open_rows Try.underlying49 Try.underlying65 (by kernel_rfl) (by kernel_rfl) h
  obtain ⟨L, hL, hI⟩ := ib_open (x := 0) (y := 1) ⟨_, rfl, rfl⟩ ⟨_, rfl, rfl⟩ Try.underlying49 Try.underlying65 (by kernel_rfl) (by kernel_rfl) h
  exact ⟨L, hI, by unfold maxLen at hm; omega⟩
theorem ibs_open {fuel : Nat} {ao : Option Addr} {len cap : Nat} {d : DataW H × List MemPlace} (h : DataW.trod enc Try.prog w base spare held fuel 45 [.slice ao len cap] = some d) : ∃ LL, LL.length = len ∧ IBs w (.slice ao len cap) LL := by
  rcases open_slice1 Try.underlying45 (by kernel_rfl) h with ⟨hcs, _⟩ | ⟨a, l, c, m, n, V, D, Pl, hcs, _, hl, hm, hmm, _, hi⟩
  · simp only [List.cons.injEq, Value.slice.injEq, and_true] at hcs
    obtain ⟨rfl, rfl, rfl⟩ := hcs
    exact ⟨[], rfl, none, 0, rfl, .inl rfl⟩
  · simp only [List.cons.injEq, Value.slice.injEq, and_true] at hcs
    obtain ⟨rfl, rfl, rfl⟩ := hcs
    by_cases h0 : len = 0
    · subst h0
      exact ⟨[], rfl, some a, cap, rfl, .inl rfl⟩
    · have hml : len ≤ m := by rw [hmm]; split <;> omega
      have key : ∀ i : Fin len, ∃ L, IB w 2 0 1 (V i.1) L ∧ L.length ≤ 9223372036854775807 := fun i => put_open (hi i.1 (by omega)).2
      obtain ⟨b, off, sp⟩ := a
      have hc0 := (hi 0 (by omega)).1
      have e0 : (⟨b, off, sp⟩ : Addr).add 0 = ⟨b, off, sp⟩ := rfl
      rw [e0] at hc0
      obtain rfl := World.cell?_spot hc0
      refine ⟨List.ofFn fun i => Classical.choose (key i), by simp, _, cap, by simp, .inr ⟨b, off, rfl, fun i hi' => ?_⟩⟩
      have hil : i < len := by simpa using hi'
      have hc := (hi i (by omega)).1
      rw [Addr.add_mid] at hc
      refine ⟨V i, hc, ?_⟩
      simp only [List.getElem_ofFn]
      exact Classical.choose_spec (key ⟨i, hil⟩)
end
end Go.Proofs.Ytckgcfkahffibaa
