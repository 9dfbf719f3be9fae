import Derived.Test.YtckgcfkahffibaaBag
namespace Go.Proofs.Ytckgcfkahffibaa
open Go.RowKit
set_option linter.unusedVariables false
set_option linter.unusedSimpArgs false
theorem wpList_runG {P : Program} {ops : Array Oper} {rest : List Oper} {o : Oper} {a : Act} {w w' : World} {Q : Exit → Act → World → Prop} {v : Value} (hw : Region.wanted o (yielded ops a.tmps) = true) (h : (execOp a.eval o).run P w = .ok (.value v) w') (hk : wpList P ops Q rest (a.put o.dst v) w') : wpList P ops Q (o :: rest) a w := by
  refine wpList_step fun K hK => ?_
  rw [if_pos hw]
  exact wp_value h (hK _ _ hk)
theorem exec_bin {P : Program} {o : Oper} {a : Act} {w : World} {v : Value} (b : BinOp) (t : TypeId) (x y : Operand) (ho : o.op = .binOp b t x y t) (X Y : Array Value) (hx : a.eval x = .agg X) (hy : a.eval y = .agg Y) (hm : P.eqGuardType P.depth t = false)
    (h : (binOp b t (.agg X) (.agg Y)).run P w = .ok v w) : (execOp a.eval o).run P w = .ok (.value v) w := by
  unfold execOp
  rw [ho]
  simp only [hx, hy]
  refine run_value ?_
  rw [Sem.run_bind, run_eqGuard_agg (hm := hm)]
  exact h
theorem wpList_binG {P : Program} {ops : Array Oper} {rest : List Oper} {o : Oper} {a : Act} {w : World} {Q : Exit → Act → World → Prop} {v : Value} (hw : Region.wanted o (yielded ops a.tmps) = true) (b : BinOp) (t : TypeId) (x y : Operand) (ho : o.op = .binOp b t x y t) (X Y : Array Value) (hx : a.eval x = .agg X) (hy : a.eval y = .agg Y) (hm : P.eqGuardType P.depth t = false)
    (h : (binOp b t (.agg X) (.agg Y)).run P w = .ok v w) (hk : wpList P ops Q rest (a.put o.dst v) w) : wpList P ops Q (o :: rest) a w := by
  refine wpList_runG hw ?_ hk
  unfold execOp
  rw [ho]
  simp only [hx, hy]
  refine run_value ?_
  rw [Sem.run_bind, run_eqGuard_agg (hm := hm)]
  exact h
section
variable {w wr : World} {k : Nat} {d : DS} {S : Nat → Prop} {vs : List (Nat × Blks)} {os : List (Value × Wl)} {ds : List (Nat × DS × (Nat → Prop))} {V : Value} {l : Wl}
theorem Bag.new {w1 : World} (hd : Dsk w1 k d S) (hs : ∀ j, S j → w.heap.size ≤ j) (hu : Upd (fun _ => False) w w1) : Bag w w1 k d S [] [] [] :=
  ⟨hd, fun x hx => by simp at hx, fun x hx => by simp at hx, fun x hx => by simp at hx, hs, fun x hx => by simp at hx, fun x hx => by simp at hx, fun x hx => by simp at hx, hu, fun x hx => by simp at hx, fun x hx => by simp at hx, by simp, fun x hx => by simp at hx⟩
theorem bag_group {v : Value} {L : List (Int × UInt8)} (h : Bag w wr k d S vs os ds) (hL : IB w 2 0 1 v L) (hLm : L.length ≤ 9223372036854775807) :
    Calls Try.prog 22 #[v] wr fun e w' => ∃ ao c l, e = .returned (.slice ao l.length c) ∧ Good l ∧ Bag w w' k d S vs ((.slice ao l.length c, l) :: os) ds := by
  refine (group_any v L wr (hL.upd h.u) hLm).mono ?_
  rintro e w' ⟨ao, c, l, rfl, hj⟩
  exact ⟨ao, c, l, rfl, hj.g, h.newo hj.u hj.o⟩
theorem bag_apply (h : Bag w wr k d S vs os ds) (hq : Quiet d) (hi : idle d.bl) (hn : d.ws.length ≤ 800000) (hg : Good l) (hm : (V, l) ∈ os) :
    Calls Try.prog 23 #[.pointer (some ⟨k, 0, none⟩), V] wr fun e w' => e = .returned (.int .i64 0) ∧ ∃ S', Bag w w' k (d.with l) S' vs os ds ∧ Upd S wr w' := by
  have hw := h.wl hg hm
  refine (apply_dsk k d S wr h.dd hn V l hw.1 hw.2 hg).mono ?_
  rw [app_quiet hq hi hg]
  rintro e w5 ⟨rfl, S5, hd, hA, hs⟩
  exact ⟨rfl, S5, h.step hd hA hs, hA⟩
theorem bag_free (h : Bag w wr k d S vs os ds) : Calls Try.prog 21 #[.pointer (some ⟨k, 0, none⟩)] wr fun e w' => e = .returned (.agg (flatV d.fr).toArray) ∧ Bag w w' k d S vs os ds ∧ B64 d.fr := by
  refine (free_dsk k d S wr h.dd).mono ?_
  rintro e w' ⟨rfl, hu, hb⟩
  exact ⟨rfl, h.q hu, hb⟩
theorem bag_freeF {F : List Value} (h : Bag w wr k d S vs os ds) (hF : F = flatV d.fr) : Calls Try.prog 21 #[.pointer (some ⟨k, 0, none⟩)] wr fun e w' => e = .returned (.agg F.toArray) ∧ Bag w w' k d S vs os ds ∧ Upd (fun _ => False) wr w' := by
  refine (free_dsk k d S wr h.dd).mono ?_
  rw [hF]
  rintro e w' ⟨rfl, hu, hb⟩
  exact ⟨rfl, h.q hu, hu⟩
theorem bag_mark (h : Bag w wr k d S vs os ds) : Calls Try.prog 26 #[.pointer (some ⟨k, 0, none⟩)] wr fun e w' => e = .returned (.tuple #[]) ∧ ∃ S', Bag w w' k d.mark S' vs os ds := by
  refine (mark_dsk k d S wr h.dd).mono ?_
  rintro e w' ⟨rfl, S', hd, hu, hs⟩
  have hk : S k := by
    obtain ⟨gb, gm, cb, cm, Wv, _, rfl⟩ := h.dd
    exact .inl rfl
  exact ⟨rfl, S', h.step hd (hu.mono (fun j _ e => by rw [e]; exact hk)) hs⟩
theorem bag_writes {n : Nat} (h : Bag w wr k d S vs os ds) (hn : d.ws.length = n) (hb : n ≤ 1000000) : Calls Try.prog 16 #[.pointer (some ⟨k, 0, none⟩)] wr fun e w' => (∃ ao c, e = .returned (.slice ao n c)) ∧ Bag w w' k d S vs os ds := by
  refine (writes_len k d S n wr h.dd hn hb).mono ?_
  rintro e w' ⟨he, hu⟩
  exact ⟨he, h.q hu⟩
theorem bag_writesE {n k1 : Nat} {d1 : DS} {S1 : Nat → Prop} (h : Bag w wr k d S vs os ds) (hm : (k1, d1, S1) ∈ ds) (hn : d1.ws.length = n) (hb : n ≤ 1000000) : Calls Try.prog 16 #[.pointer (some ⟨k1, 0, none⟩)] wr fun e w' => (∃ ao c, e = .returned (.slice ao n c)) ∧ Bag w w' k d S vs os ds := by
  refine (writes_len k1 d1 S1 n wr (h.e _ hm) hn hb).mono ?_
  rintro e w' ⟨he, hu⟩
  exact ⟨he, h.q hu⟩
theorem bag_writesU {n : Nat} (h : Bag w wr k d S vs os ds) (hn : d.ws.length = n) (hb : n ≤ 1000000) : Calls Try.prog 16 #[.pointer (some ⟨k, 0, none⟩)] wr fun e w' => (∃ ao c, e = .returned (.slice ao n c)) ∧ Bag w w' k d S vs os ds ∧ Upd (fun _ => False) wr w' := by
  refine (writes_len k d S n wr h.dd hn hb).mono ?_
  rintro e w' ⟨he, hu⟩
  exact ⟨he, h.q hu, hu⟩
theorem bag_cutU {n : Nat} (h : Bag w wr k d S vs os ds) (hn : d.ws.length ≤ 1000000) (hn0 : n ≤ 1000000) : Calls Try.prog 18 #[.pointer (some ⟨k, 0, none⟩), .int .i64 n] wr fun e w' => ∃ k' S', e = .returned (.pointer (some ⟨k', 0, none⟩)) ∧ Bag w w' k' (d.cut n) S' vs os ds ∧ Upd (fun _ => False) wr w' := by
  refine (cut_dsk k d S n wr h.dd hn hn0).mono ?_
  rintro e w' ⟨k', S', rfl, hd, hs, hu⟩
  exact ⟨k', S', rfl, h.newd hu hd hs, hu⟩
/-- Another disk takes the place. -/
theorem bag_cut {n : Nat} (h : Bag w wr k d S vs os ds) (hn : d.ws.length ≤ 1000000) (hn0 : n ≤ 1000000) : Calls Try.prog 18 #[.pointer (some ⟨k, 0, none⟩), .int .i64 n] wr fun e w' => ∃ k' S', e = .returned (.pointer (some ⟨k', 0, none⟩)) ∧ Bag w w' k' (d.cut n) S' vs os ds := by
  refine (cut_dsk k d S n wr h.dd hn hn0).mono ?_
  rintro e w' ⟨k', S', rfl, hd, hs, hu⟩
  exact ⟨k', S', rfl, h.newd hu hd hs⟩
theorem bag_cutk {n : Nat} (h : Bag w wr k d S vs os ds) (hn : d.ws.length ≤ 1000000) (hn0 : n ≤ 1000000) : Calls Try.prog 18 #[.pointer (some ⟨k, 0, none⟩), .int .i64 n] wr fun e w' => ∃ k' S', e = .returned (.pointer (some ⟨k', 0, none⟩)) ∧ Bag w w' k' (d.cut n) S' vs os ((k, d, S) :: ds) ∧ ∀ j, S' j → wr.heap.size ≤ j := by
  refine (cut_dsk k d S n wr h.dd hn hn0).mono ?_
  rintro e w' ⟨k', S', rfl, hd, hs, hu⟩
  exact ⟨k', S', rfl, h.newk hu hd hs, hs⟩
theorem bag_recover {n : Int} {d' : DS} (h : Bag w wr k d S vs os ds) (hn : d.ws.length ≤ 900000) (hr : d.recv = ((n, 0), d')) :
    Calls Try.prog 24 #[.pointer (some ⟨k, 0, none⟩)] wr fun e w' => e = .returned (.tuple #[.int .i64 n, .int .i64 0]) ∧ ∃ S', Bag w w' k d' S' vs os ds := by
  refine (recover_dsk k d S wr h.dd hn).mono ?_
  rw [hr]
  rintro e w5 ⟨rfl, S5, hd, hA, hs⟩
  exact ⟨rfl, S5, h.step hd hA hs⟩
end
theorem recAll_le (f : Nat → List UInt8) : (recAll f).length ≤ 256 := by
  have := recAll_len f
  have h : hb f 0 < 256 := by unfold hb; exact UInt8.toNat_lt _
  omega
theorem of_quiet (f : Nat → List UInt8) : Quiet (DS.of f) := ⟨rfl, rfl⟩
theorem with_idle {d : DS} {l : Wl} (h : idle d.bl) : idle (d.with l).bl := fullW_idle h
theorem rc_quiet {d : DS} (h : Quiet d) : Quiet d.rc := h
theorem oldS_fr {o : Blks} {d : DS} (hq : Quiet d) (h : OldS o d.bl) {e : DS} (he : Quiet e) (ho : e.bl = o) (j : Nat) (hj : j < 255) : d.fr j = e.fr j := by
  rw [quiet_fr hq j hj, quiet_fr he j hj]
  by_cases h25 : 25 ≤ j
  · rw [if_pos h25, if_pos h25, ho]; exact h.2 j h25
  · rw [if_neg h25, if_neg h25]
theorem newS_fr {o : Blks} {l : Wl} {d : DS} (hq : Quiet d) (h : NewS o l d.bl) (hg : Good l) {e : DS} (he : Quiet e) (ho : e.bl = o) (j : Nat) (hj : j < 255) : d.fr j = (e.with l).fr j := by
  rw [quiet_fr hq j hj, quiet_fr (with_quiet he) j hj]
  by_cases h25 : 25 ≤ j
  · rw [if_pos h25, if_pos h25]
    show _ = laid e.bl (fullW l) j
    rw [fullW_free hg.len j h25, ho]; exact h.2 j h25
  · rw [if_neg h25, if_neg h25]
/-- A group that is laid again is there. -/
theorem again_fr {o : Blks} {l : Wl} {d : DS} (hq : Quiet d) (h : OldS o d.bl ∨ NewS o l d.bl) (hg : Good l) {e : DS} (he : Quiet e) (ho : e.bl = o) (j : Nat) (hj : j < 255) : (d.with l).fr j = (e.with l).fr j := by
  rw [quiet_fr (with_quiet hq) j hj, quiet_fr (with_quiet he) j hj]
  by_cases h25 : 25 ≤ j
  · rw [if_pos h25, if_pos h25]
    show laid d.bl (fullW l) j = laid e.bl (fullW l) j
    rw [fullW_free hg.len j h25, fullW_free hg.len j h25, ho]
    by_cases hin : j ∈ l.map (·.1)
    · exact laid_in hin _ _
    · rw [laid_out hin, laid_out hin]
      rcases h with h | h
      · exact h.2 j h25
      · rw [h.2 j h25, laid_out hin]
  · rw [if_neg h25, if_neg h25]
/-- What behind a cut and a recovery is there: bits of the comparisons. -/
theorem either46 {f o n : Blks} (hf : B64 f) (ho : B64 o) (hn : B64 n) (h : (∀ j, j < 255 → f j = o j) ∨ (∀ j, j < 255 → f j = n j)) :
    ∃ a b : Bool, (∀ w, (binOp .neq 46 (.agg (flatV f).toArray) (.agg (flatV o).toArray)).run Try.prog w = .ok (.bool a) w) ∧ (∀ w, (binOp .neq 46 (.agg (flatV f).toArray) (.agg (flatV n).toArray)).run Try.prog w = .ok (.bool b) w) ∧ (a = true → b = false) ∧ ((∀ j, j < 255 → f j = o j) → a = false) ∧ ((∀ j, j < 255 → f j = n j) → b = false) := by
  obtain ⟨a, ha, ha'⟩ := cmp46 hf ho
  obtain ⟨b, hb, hb'⟩ := cmp46 hf hn
  refine ⟨a, b, ha, hb, fun h1 => ?_, ha', hb'⟩
  rcases h with h | h
  · rw [ha' h] at h1; cases h1
  · exact hb' h
end Go.Proofs.Ytckgcfkahffibaa
