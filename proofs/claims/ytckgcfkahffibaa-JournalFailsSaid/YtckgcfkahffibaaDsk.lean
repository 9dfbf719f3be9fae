import Derived.Test.YtckgcfkahffibaaBlk
namespace Go.Proofs.Ytckgcfkahffibaa
open Go.RowKit
set_option linter.unusedVariables false
set_option linter.unusedSimpArgs false
/-- A disk at block k; S: the blocks that it has. -/
def Dsk (w : World) (k : Nat) (d : DS) (S : Nat → Prop) : Prop := ∃ gb gm cb cm Wv, Dk w k gb gm cb cm Wv d ∧ S = DkS k gb gm Wv
theorem own_lt {w : World} {base : Nat} {e : TypeId} {size : Nat} {v : Value} {n : Nat} {xs : List Value} (h : w.ownsRow base e size v n xs) {j : Nat} (hj : v.ownBlock = some j) : j < w.heap.size := by
  rcases h.2 with ⟨rfl, _⟩ | ⟨g, cap, cur, rfl, _, hg, _⟩
  · simp [Value.ownBlock] at hj
  · simp [Value.ownBlock] at hj
    subst hj
    exact (Array.getElem?_eq_some_iff.1 hg).1
namespace Dsk
variable {w w' : World} {k : Nat} {d : DS} {S : Nat → Prop}
theorem lt (h : Dsk w k d S) : ∀ j, S j → j < w.heap.size := by
  obtain ⟨gb, gm, cb, cm, Wv, h, rfl⟩ := h
  rintro j (rfl | rfl | rfl | hj)
  · exact (Array.getElem?_eq_some_iff.1 h.cell).1
  · exact h.bl.lt
  · exact h.ml.lt
  · exact own_lt h.ws hj
theorem upd {T : Nat → Prop} (h : Dsk w k d S) (hu : Upd T w w') (hs : ∀ j, S j → ¬ T j) : Dsk w' k d S := by
  obtain ⟨gb, gm, cb, cm, Wv, h, rfl⟩ := h
  exact ⟨gb, gm, cb, cm, Wv, h.upd hu hs, rfl⟩
theorem upd0 (h : Dsk w k d S) (hu : Upd (fun _ => False) w w') : Dsk w' k d S := h.upd hu (fun _ _ h => h)
theorem updFresh {B : Nat} (h : Dsk w k d S) (hu : Upd (fun j => B ≤ j) w w') (hs : ∀ j, S j → j < B) : Dsk w' k d S := h.upd hu (fun j hj h => by have := hs j hj; omega)
theorem self (h : Dsk w k d S) : S k := by
  obtain ⟨gb, gm, cb, cm, Wv, h, rfl⟩ := h
  exact .inl rfl
theorem pre (h : Dsk w k d S) : -1 ≤ d.left ∧ d.left ≤ 9223372036854775807 := by
  obtain ⟨gb, gm, cb, cm, Wv, h, rfl⟩ := h
  exact h.left
theorem congr {d' : DS} (h : Dsk w k d S) (hb : ∀ i, i < 255 → d'.bl i = d.bl i) (hm : ∀ i, i < 255 → d'.ml i = d.ml i) (hw : d'.ws = d.ws) (hl : d'.left = d.left) (hg : d'.gone = d.gone) : Dsk w k d' S := by
  obtain ⟨gb, gm, cb, cm, Wv, h, rfl⟩ := h
  refine ⟨gb, gm, cb, cm, Wv, ⟨by rw [hl, hg]; exact h.cell, h.bl.congr (fun i hi => by rw [hb i hi]), h.ml.congr (fun i hi => by rw [hm i hi]), by rw [hw]; exact h.ws, by rw [hw]; exact h.at_, h.ap, h.cap, by rw [hl]; exact h.left⟩, rfl⟩
end Dsk
/-- A block of one byte. -/
def one (b : UInt8) : List UInt8 := List.replicate 64 b
/-- What a read tells. -/
def DS.rd (d : DS) (at_ : Int) : List UInt8 := if d.may at_ = 0 then d.bl at_.toNat else one 0
theorem zeros64 : List.replicate 64 (Value.int .u8 0) = bytesV (one 0) := by kernel_rfl

theorem results_cell_tmp_mid {P : Program} {fn : Func} {p q : Tmp} {ty : TypeId} (h : fn.results = #[.cell p ty, .tmp q]) (tmps : Array Value) (w : World) (g : Nat) (cs : List Value) (d : TypeDesc)
    (hp : tmps.getD p undef = .pointer (some ⟨g, 0, none⟩)) (hc : w.rangeAt g 0 cs)
    (hu : P.underlying ty = some d) (hd : d.isRow = true) (hi : (P.info? ty).map (·.size) = some cs.length) :
    (results fn tmps).run P w = .ok (.tuple #[.agg cs.toArray, tmps.getD q undef]) w := by
  have hp' : tmps[p]?.getD undef = .pointer (some ⟨g, 0, none⟩) := by simpa using hp
  simp [results, h, hp', asAddr, run_loadVar_mid w g 0 ty cs d hc hu hd hi]
set_option maxHeartbeats 1000000 in
set_option maxRecDepth 100000 in
theorem read_not (k gb gm cb cm : Nat) (Wv : Value) (d : DS) (at_ : Int) (w : World) (h : Dk w k gb gm cb cm Wv d) (h1 : d.may at_ ≠ 0) :
    Calls Try.prog 19 #[.pointer (some ⟨k, 0, none⟩), .int .i64 at_] w fun e w' => e = .returned (.tuple #[.agg (bytesV (one 0)).toArray, .int .i64 (d.may at_)]) ∧ Upd (fun _ => False) w w' := by
  have H := Lib.hid h
  have H1 := Lib.hid h1
  clear h h1
  go_enter Try.func19, Try.ntmps19
  go_wp2_with fail
  generalize hZ : w.alloc (.cells _ 28) = w1
  have hg1 : w1.heap[w.heap.size]? = some (.cells (bytesV (one 0)).toArray 28 (0, 0)) := by rw [← hZ]; exact heap_alloc_new w _
  have hu1 : Upd (fun _ => False) w w1 := by rw [← hZ]; exact (Upd.refl _ w).alloc _
  have HD1 := Lib.hid (H.out.upd hu1 (fun _ _ h => h))
  have HU1 := Lib.hid hu1
  have HG1 := Lib.hid hg1
  generalize hgz : w.heap.size = g at *
  clear hZ hu1 hg1
  refine (may_any k gb gm cb cm Wv d at_ w1 HD1.out).mono ?_
  rintro e w' ⟨rfl, rfl⟩
  generalize hm : d.may at_ = m at *
  have hne := H1.out
  have hla : (bytesV (one 0)).length = 64 := by simp [bytesV, one]
  have hth : w'.there g 0 64 := there_row HG1.out (by simp [bytesV, one])
  have HTH := Lib.hid hth
  have hs28 : (Try.prog.info? 28).map (·.size) = some ((bytesV (one 0)).toArray).size := by rw [size28]; rfl
  have ho28 : (bytesV (one 0)).toArray.all (·.oneCell') = true := by kernel_rfl
  have hc28 : (bytesV (one 0)).toArray.size = 64 := by kernel_rfl
  have HS := Lib.hid hs28
  have HO := Lib.hid ho28
  have HC := Lib.hid hc28
  have HM := Lib.hid hm
  clear hm hth hs28 ho28 hc28
  go_wp2_with (refine wpList_store_mid rfl 28 (.tmp 4) (.tmp 12) rfl g 0 (bytesV (one 0)).toArray (by rfl) (by kernel_rfl) (by rw [HC.out]; exact HTH.out) HS.out HO.out ?c1)
  refine bodyPost_ret (results_cell_tmp_mid (p := 4) (q := 5) (ty := 28) rfl _ _ g (bytesV (one 0)) _ rfl ?_ Try.underlying28 rfl (by rw [hla]; exact size28)) rfl ?_
  · exact World.rangeAt_setCells_same _ _ _ _ (by rw [hla]; exact HTH.out)
  · exact ⟨by rw [HM.out]; rfl, upd_setCells HU1.out _ _ _ (fun h => by omega)⟩
theorem read_dsk (k : Nat) (d : DS) (S : Nat → Prop) (at_ : Int) (w : World) (h : Dsk w k d S) :
    Calls Try.prog 19 #[.pointer (some ⟨k, 0, none⟩), .int .i64 at_] w fun e w' => e = .returned (.tuple #[.agg (bytesV (d.rd at_)).toArray, .int .i64 (d.may at_)]) ∧ Upd (fun _ => False) w w' := by
  obtain ⟨gb, gm, cb, cm, Wv, h, _⟩ := h
  unfold DS.rd
  by_cases h0 : d.may at_ = 0
  · rw [if_pos h0, h0]; exact read_any k gb gm cb cm Wv d at_ w h h0
  · rw [if_neg h0]; exact read_not k gb gm cb cm Wv d at_ w h h0

theorem Dk.re {w w' : World} {k gb gm cb cm : Nat} {Wv : Value} {d : DS} (h : Dk w k gb gm cb cm Wv d) (hu : Upd (fun j => j = k) w w') {l : Int} {g : Bool}
    (hc : w'.heap[k]? = some (.cells #[.slice (some ⟨gb, 0, none⟩) 255 cb, .slice (some ⟨gm, 0, none⟩) 255 cm, Wv, .int .i64 l, .bool g] 61 (0, 0))) (hl : -1 ≤ l ∧ l ≤ 9223372036854775807) :
    Dk w' k gb gm cb cm Wv { d with left := l, gone := g } :=
  ⟨hc, h.bl.upd hu h.ap.1, h.ml.upd hu h.ap.2.1, ownsRow_upd h.ws hu (fun j hj e => h.ap.2.2.2.1 (by rw [hj, e])), h.at_, h.ap, h.cap, hl⟩
set_option maxHeartbeats 1000000 in
theorem fail_dsk (k : Nat) (d : DS) (S : Nat → Prop) (n : Int) (hn : n ≤ 9223372036854775807) (w : World) (h : Dsk w k d S) :
    Calls Try.prog 20 #[.pointer (some ⟨k, 0, none⟩), .int .i64 n] w fun e w' => e = .returned (.tuple #[]) ∧ Dsk w' k { d with left := max n (-1) } S ∧ Upd (fun j => j = k) w w' := by
  obtain ⟨gb, gm, cb, cm, Wv, h, rfl⟩ := h
  have c3 : w.cell? ⟨k, 3, none⟩ = some (.int .i64 d.left) := by rw [cell_of_row w k 3 _ 61 (0, 0) h.cell]; rfl
  have f3 := frozen_of_row w k 3 _ 61 h.cell
  have H := Lib.hid h
  clear h
  by_cases hc : -1 ≤ n
  · rw [Int.max_eq_left hc]
    go_enter Try.func20, Try.ntmps20
    go_wp2
    go_end0
    have hu := (Upd.refl (fun j => j = k) w).setCell (p := ⟨k, 3, none⟩) (fun _ => rfl) (.int .i64 n)
    exact ⟨rfl, ⟨gb, gm, cb, cm, Wv, H.out.re hu (by rw [heap_setCell_same w k 3 _ 61 _ H.out.cell]; rfl) ⟨hc, hn⟩, rfl⟩, hu⟩
  · rw [Int.max_eq_right (by omega)]
    go_enter Try.func20, Try.ntmps20
    go_wp2
    go_end0
    have hu := (Upd.refl (fun j => j = k) w).setCell (p := ⟨k, 3, none⟩) (fun _ => rfl) (.int .i64 (-1))
    exact ⟨rfl, ⟨gb, gm, cb, cm, Wv, H.out.re hu (by rw [heap_setCell_same w k 3 _ 61 _ H.out.cell]; rfl) ⟨by omega, by omega⟩, rfl⟩, hu⟩

theorem within_any (n hi : Int) (h1 : -9223372036854775808 ≤ n) (h2 : n ≤ 9223372036854775807) (h0 : 0 ≤ hi) (hh : hi ≤ 1000) (w : World) :
    Calls Try.prog 13 #[.int .i64 n, .int .i64 0, .int .i64 hi] w fun e w' => (∃ r : Nat, (r : Int) ≤ hi ∧ e = .returned (.int .i64 r)) ∧ w' = w := by
  have ha : n.tmod (hi + 1) < hi + 1 := by
    have := Int.tmod_lt_of_pos n (show 0 < hi + 1 by omega)
    omega
  have hb : -(hi + 1) < n.tmod (hi + 1) := by
    have := Int.tmod_lt_of_pos (-n) (show 0 < hi + 1 by omega)
    rw [Int.neg_tmod] at this
    omega
  by_cases hneg : n.tmod (hi + 1) < 0
  · obtain ⟨r, hr⟩ := Int.eq_ofNat_of_zero_le (show 0 ≤ n.tmod (hi + 1) + hi + 1 by omega)
    have HR := Lib.hid hr
    clear hr
    go_enter Try.func13, Try.ntmps13
    go_wp2
    go_ret
    have hr := HR.out
    refine ⟨⟨r, by omega, ?_⟩, rfl⟩
    rw [← hr]
    rfl
  · obtain ⟨r, hr⟩ := Int.eq_ofNat_of_zero_le (show 0 ≤ n.tmod (hi + 1) by omega)
    have HR := Lib.hid hr
    clear hr
    go_enter Try.func13, Try.ntmps13
    go_wp2
    go_ret
    have hr := HR.out
    refine ⟨⟨r, by omega, ?_⟩, rfl⟩
    rw [← hr]
    rfl
end Go.Proofs.Ytckgcfkahffibaa
