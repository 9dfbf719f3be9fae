import Derived.Test.YtckgcfkahffibaaBlk2
namespace Go.Proofs.Ytckgcfkahffibaa
open Go.RowKit
set_option linter.unusedVariables false
set_option linter.unusedSimpArgs false
/-- A slice of writes that can be read. -/
def WlR (w : World) (v : Value) (l : List (Nat × List UInt8)) : Prop :=
  ∃ ao cap, v = .slice ao l.length cap ∧ l.length ≤ cap ∧ (∀ x ∈ l, x.1 < 255 ∧ x.2.length = 64) ∧ (l = [] ∨ ∃ g o, ao = some ⟨g, o, none⟩ ∧ ∀ i (h : i < l.length), w.rangeAt g (o + i * 65) (wcells l[i]))
theorem WlR.upd {S : Nat → Prop} {w w' : World} {v : Value} {l : List (Nat × List UInt8)} (h : WlR w v l) (hu : Upd S w w') (hn : ∀ k, v.ownBlock = some k → ¬ S k) : WlR w' v l := by
  obtain ⟨ao, cap, rfl, hc, hl, h⟩ := h
  refine ⟨ao, cap, rfl, hc, hl, ?_⟩
  rcases h with h | ⟨g, o, rfl, h⟩
  · exact .inl h
  · exact .inr ⟨g, o, rfl, fun i hi => range_upd (h i hi) hu (hn g rfl)⟩
theorem WlR.own {w : World} {base : Nat} {v : Value} {l : List (Nat × List UInt8)} (h : w.ownsRow base 33 65 v l.length (wsV l)) (hl : ∀ x ∈ l, x.1 < 255 ∧ x.2.length = 64) : WlR w v l := by
  rcases h.2 with ⟨rfl, h0⟩ | ⟨g, cap, cur, rfl, hb, hg, hn, hm, hs, ht⟩
  · exact ⟨none, 0, by rw [h0], by omega, hl, .inl (List.eq_nil_of_length_eq_zero h0)⟩
  · refine ⟨_, cap, rfl, hn, hl, .inr ⟨g, 0, rfl, fun i hi => ?_⟩⟩
    rw [Nat.zero_add]
    exact ws_at (ownsRow_base h (fun _ _ => Nat.zero_le _)) hl i hi
/-- The numbers of what was met. -/
def metF (l : List (Nat × List UInt8)) (j : Nat) : Value := .int .i64 (if j ∈ l.map (·.1) then 1 else 0)
theorem info67 : (Try.prog.info? 67).map (fun i => (i.zero, i.size, i.bytes)) = some (some (Value.agg (List.replicate 255 (Value.int .i64 0)).toArray), 255, 2040) := by kernel_rfl
theorem zero67 : ∃ Z : Array Value, Z.size = 255 ∧ (∀ j, j < 255 → Z[j]? = some (.int .i64 0)) ∧ ∀ w, (zeroValue 67).run Try.prog w = .ok (.agg Z) w := by
  obtain ⟨i0, hi, hz0, hz1, hz2⟩ := info_parts info67
  have hl : (List.replicate 255 (Value.int .i64 0)).toArray.size = 255 := by rw [List.size_toArray, List.length_replicate]
  have hg : ∀ j, j < 255 → (List.replicate 255 (Value.int .i64 0)).toArray[j]? = some (.int .i64 0) := fun j hj => by
    rw [List.getElem?_toArray, List.getElem?_replicate, if_pos hj]
  generalize (List.replicate 255 (Value.int .i64 0)).toArray = Z at *
  exact ⟨Z, hl, hg, fun w => by simp [zeroValue, typeInfo, hi, hz0]⟩
/-- A group that may be written. -/
structure Good (l : List (Nat × List UInt8)) : Prop where
  at_ : ∀ x ∈ l, 25 ≤ x.1 ∧ x.1 < 255 ∧ x.2.length = 64
  nd : (l.map (·.1)).Nodup
  len : l.length ≤ 24

theorem size33 : (Try.prog.info? 33).map (·.size) = some 65 := by obtain ⟨i0, h0, _, h1, _⟩ := info_parts info33; rw [h0]; simp [h1]
theorem wpList_var33 {w : World} {ops : Array Oper} {rest : List Oper} {o1 o2 : Oper} {a : Act} {Q : Exit → Act → World → Prop} (g1 : o1.guard = none) (g2 : o2.guard = none) (p : Tmp) (y : Operand)
    (h1 : o1.op = .alloc 33) (hd : o1.dst = some p) (h2 : o2.op = .store 33 (.tmp p) y) (x : Nat × List UInt8) (hL : x.2.length = 64)
    (hp : (a.put (some p) (.pointer (some ⟨w.heap.size, 0, none⟩))).eval (.tmp p) = .pointer (some ⟨w.heap.size, 0, none⟩)) (hx : (a.put (some p) (.pointer (some ⟨w.heap.size, 0, none⟩))).eval y = .agg (wcells x).toArray)
    (h : ∀ w', Upd (fun _ => False) w w' → w'.rangeAt w.heap.size 0 (wcells x) → wpList Try.prog ops Q rest ((a.put (some p) (.pointer (some ⟨w.heap.size, 0, none⟩))).put o2.dst undef) w') : wpList Try.prog ops Q (o1 :: o2 :: rest) a w := by
  obtain ⟨Z, hZ, hz⟩ := zero33
  have hlen : (wcells x).length = 65 := wcells_len hL
  have hla : (wcells x).toArray.size = 65 := by simp [hlen]
  refine wpList_plain g1 fun K hK => ?_
  refine wp_value (v := .pointer (some ⟨w.heap.size, 0, none⟩)) (w' := w.alloc (.cells Z 33)) ?_ (hK _ _ ?_)
  · simp [execOp, h1, Instr.alloc, newVar, newRow, hz, Value.cells]
  · rw [hd]
    have hth : (w.alloc (.cells Z 33)).there w.heap.size 0 65 := there_row (heap_alloc_new w _) (by omega)
    refine wpList_store_mid g2 33 (.tmp p) y h2 w.heap.size 0 (wcells x).toArray hp hx (by rw [hla]; exact hth) (by rw [hla]; exact size33) (all_oneCell_toArray (wcells_one x)) ?_
    refine h _ (upd_setCells ((Upd.refl _ w).alloc _) _ _ _ (fun h => by omega)) ?_
    exact World.rangeAt_setCells_same _ _ _ _ (by rw [hlen]; exact hth)
theorem metF_step {l : List (Nat × List UInt8)} {i : Nat} {x : Nat × List UInt8} (h : l[i]? = some x) (j : Nat) (hj : j ≠ x.1) : metF (l.take (i + 1)) j = metF (l.take i) j := by
  have e : l.take (i + 1) = l.take i ++ [x] := by rw [List.take_add_one, h]; rfl
  unfold metF
  rw [e]
  simp [hj]
theorem metF_new {l : List (Nat × List UInt8)} {i : Nat} {x : Nat × List UInt8} (h : l[i]? = some x) : metF (l.take (i + 1)) x.1 = .int .i64 1 := by
  have e : l.take (i + 1) = l.take i ++ [x] := by rw [List.take_add_one, h]; rfl
  unfold metF
  rw [e, if_pos (by simp)]
theorem metF_not {l : List (Nat × List UInt8)} {i : Nat} {x : Nat × List UInt8} (h : l[i]? = some x) (hn : (l.map (·.1)).Nodup) : metF (l.take i) x.1 = .int .i64 0 := by
  unfold metF
  rw [if_neg]
  intro hm
  rw [List.map_take] at hm
  obtain ⟨j, hj, hje⟩ := List.getElem_of_mem hm
  have hjl : j < i := by simp at hj; omega
  have hil : i < l.length := (List.getElem?_eq_some_iff.1 h).1
  have hix : (l.map (·.1))[i]'(by simpa using hil) = x.1 := by
    rw [List.getElem_map]
    have := (List.getElem?_eq_some_iff.1 h).2
    rw [this]
  rw [List.getElem_take] at hje
  exact (List.pairwise_iff_getElem.1 hn) j i (by simp; omega) (by simpa using hil) hjl (by rw [hje, hix])
set_option maxHeartbeats 2000000 in
set_option maxRecDepth 100000 in
theorem right_good (k : Nat) (v : Value) (l : List (Nat × List UInt8)) (w : World) (hv : WlR w v l) (hg : Good l) :
    Calls Try.prog 30 #[.pointer (some ⟨k, 0, none⟩), v] w fun e w' => e = .returned (.int .i64 0) ∧ Upd (fun _ => False) w w' := by
  obtain ⟨ao, cap, rfl, hcap, hl, hr⟩ := hv
  have HR := Lib.hid hr
  have HG := Lib.hid hg
  have hlen := hg.len
  obtain ⟨Z, hZ, hz0, hz67⟩ := zero67
  have HZ := Lib.hid hZ
  have HZ0 := Lib.hid hz0
  have hcapI : (l.length : Int) ≤ (cap : Int) := by omega
  clear hr hg hl hZ hz0
  go_enter Try.func30, Try.ntmps30
  go_wp2_with fail
  have HM0 := Lib.hid (show ∃ C : Array Value, (w.alloc (.cells Z 67)).heap[w.heap.size]? = some (.cells C 67 (0, 0)) ∧ C.size = 255 ∧ ∀ j, j < 255 → C[j]? = some (metF (l.take 0) j) from ⟨Z, heap_alloc_new w _, HZ.out, fun j hj => by rw [HZ0.out j hj]; simp [metF]⟩)
  have HU0 := Lib.hid ((Upd.refl (fun _ => False) w).alloc (.cells Z 67))
  have HLT0 := Lib.hid (show w.heap.size < (w.alloc (.cells Z 67)).heap.size by simp)
  generalize hg5 : w.heap.size = g5 at *
  have HG5 := Lib.hid hg5
  generalize w.alloc (.cells Z 67) = w1 at *
  clear hg5 hz67
  go_loopw [12] (fun i wr => ∃ q : Nat, i = .int .i64 q ∧ q ≤ l.length ∧ (∃ C : Array Value, wr.heap[g5]? = some (.cells C 67 (0, 0)) ∧ C.size = 255 ∧ ∀ j, j < 255 → C[j]? = some (metF (l.take q) j)) ∧ Upd (fun _ => False) w wr) (fun i _ => l.length - (intOf i).toNat)
  case atStart => exact ⟨0, rfl, Nat.zero_le _, HM0.out, HU0.out⟩
  case round =>
    obtain ⟨q, rfl, hq, hm, hu⟩ := hrel
    have HMr := Lib.hid hm
    have HUr := Lib.hid hu
    clear hm hu
    by_cases hlt : q < l.length
    · obtain ⟨g, o, rfl, hra⟩ : ∃ g o, ao = some ⟨g, o, none⟩ ∧ ∀ i (h : i < l.length), w.rangeAt g (o + i * 65) (wcells l[i]) := by
        rcases HR.out with h | h
        · rw [h] at hlt; simp at hlt
        · exact h
      have hrq := range_upd (hra q hlt) HUr.out (fun h => h)
      have hxg := HG.out.at_ _ (List.getElem_mem hlt)
      have hx? : l[q]? = some l[q] := List.getElem?_eq_getElem hlt
      obtain ⟨x, hx⟩ : ∃ x, x = l[q] := ⟨_, rfl⟩
      rw [← hx] at hrq hxg hx?
      have HX := Lib.hid hx?
      have HXG := Lib.hid hxg
      have HRQ := Lib.hid hrq
      have HWL := Lib.hid (show (Try.prog.info? 33).map (·.size) = some (wcells x).length by rw [wcells_len hxg.2.2]; exact size33)
      have d1 : (q : Int) < (l.length : Int) := by omega
      have d0 : (0 : Int) ≤ (q : Int) := by omega
      have d4 : q + 1 ≤ l.length := by omega
      clear hra hrq hxg hx hx? hlt hq
      go_wp2_with (first | (refine wpList_load_mid rfl 33 (.tmp 14) rfl g (o + q * 65) (by rfl) (wcells x) _ HRQ.out Try.underlying33 rfl HWL.out ?_) | (refine wpList_var33 (by rfl) (by rfl) 7 (.tmp 15) (by rfl) (by rfl) (by rfl) x HXG.out.2.2 (by rfl) (by rfl) ?_))
      intro w2 hu hr7
      obtain ⟨C, hC, hCs, hCf⟩ := HMr.out
      have hg5 : g5 < wr.heap.size := (Array.getElem?_eq_some_iff.1 hC).1
      have hg57 : g5 ≠ wr.heap.size := by omega
      have hC2 := hu.heap_some hC (fun h => h)
      have HU2 := Lib.hid (HUr.out.trans' hu)
      generalize wr.heap.size = g7 at *
      have c7 : w2.cell? ⟨g7, 0, none⟩ = some (.int .i64 (x.1 : Int)) := by have := hr7 0 _ rfl; rwa [Nat.zero_add] at this
      have c5 : w2.cell? ⟨g5, x.1, none⟩ = some (.int .i64 0) := by
        rw [cell_of_row w2 g5 x.1 _ 67 (0, 0) hC2, hCf x.1 HXG.out.2.1, metF_not HX.out HG.out.nd]
      have f5 := frozen_of_row w2 g5 x.1 _ 67 hC2
      have HC2 := Lib.hid hC2
      have HCs := Lib.hid hCs
      have HCf := Lib.hid hCf
      have hx1 := HXG.out.1
      have hx2 := HXG.out.2.1
      have HMF := Lib.hid (fun j hj => metF_step (l := l) (i := q) HX.out j hj)
      have HMN := Lib.hid (metF_new (l := l) (i := q) HX.out)
      generalize x.1 = xi at *
      have e1 : (0 : Int) ≤ (xi : Int) := by omega
      have e2 : (xi : Int) < 255 := by omega
      have e3 : decide ((25 : Int) ≤ (xi : Int) ∧ (xi : Int) < 255) = true := decide_eq_true ⟨by omega, by omega⟩
      have HE3 := Lib.hid e3
      clear hC hCs hCf hC2 hr7 hu e3 hx1 hx2
      go_wp2_with fail
      refine (free_any (xi : Int) w2).mono ?_
      rintro e w2 ⟨rfl, rfl⟩
      rw [HE3.out]
      go_wp2_with fail
      go_roundw
      case rel =>
        refine ⟨q + 1, by go_num, d4, ⟨_, heap_setCell_same w2 g5 xi _ 67 _ HC2.out, by rw [Array.size_setIfInBounds]; exact HCs.out, fun j hj => ?_⟩, HU2.out.setCell (p := ⟨g5, xi, none⟩) (fun h => absurd (show g5 < w.heap.size from h) (by have := HG5.out; omega)) _⟩
        by_cases e : j = xi
        · subst e
          rw [HMN.out, Array.getElem?_setIfInBounds]
          simp [HCs.out, hj]
        · rw [HMF.out j e, Array.getElem?_setIfInBounds, if_neg (by omega)]
          exact HCf.out j hj
      case measure => simp [intOf]; omega
    · have hql : q = l.length := by omega
      subst hql
      have d1 : ¬ ((l.length : Int) < (l.length : Int)) := by omega
      have d2 : ¬ ((24 : Int) < (l.length : Int)) := by omega
      clear hlt hq
      go_wp2_with fail
      go_ret
      exact ⟨rfl, HUr.out⟩
end Go.Proofs.Ytckgcfkahffibaa
