import Derived.Test.YtckgcfkahffibaaFlat
namespace Go.Proofs.Ytckgcfkahffibaa
open Go.RowKit
set_option linter.unusedVariables false
set_option linter.unusedSimpArgs false

set_option maxHeartbeats 1000000 in
set_option maxRecDepth 100000 in
theorem write_not (k gb gm cb cm : Nat) (Wv : Value) (d : DS) (at_ : Int) (b : List UInt8) (w : World) (h : Dk w k gb gm cb cm Wv d) (h1 : d.may at_ ≠ 0) :
    Calls Try.prog 14 #[.pointer (some ⟨k, 0, none⟩), .int .i64 at_, .agg (bytesV b).toArray] w (WrP (DkS k gb gm Wv) k (d.may at_, d) w) := by
  have H := Lib.hid h
  generalize hm : d.may at_ = m at *
  have HM := Lib.hid hm
  clear h hm
  generalize bytesV b = B
  go_enter Try.func14, Try.ntmps14
  go_wp2_with fail
  have hu1 : Upd (fun _ => False) w (w.alloc (.cells B.toArray 28)) := (Upd.refl _ w).alloc _
  generalize w.alloc (.cells B.toArray 28) = w1 at *
  have HD1 := Lib.hid (H.out.upd hu1 (fun _ _ h => h))
  have HU1 := Lib.hid hu1
  clear hu1
  refine (may_any k gb gm cb cm Wv d at_ w1 HD1.out).mono ?_
  intro e w' h
  rw [HM.out] at h
  obtain ⟨rfl, rfl⟩ := h
  go_wp2
  go_ret
  exact ⟨rfl, _, ⟨gb, gm, cb, cm, _, HD1.out, rfl⟩, HU1.out.mono (fun _ _ h => h.elim), fun j hj => .inl hj⟩

set_option maxHeartbeats 1000000 in
set_option maxRecDepth 100000 in
theorem write_gone (k gb gm cb cm : Nat) (Wv : Value) (d : DS) (at_ : Int) (b : List UInt8) (w : World) (h : Dk w k gb gm cb cm Wv d) (h1 : d.may at_ = 0) (h2 : d.left = 0) :
    Calls Try.prog 14 #[.pointer (some ⟨k, 0, none⟩), .int .i64 at_, .agg (bytesV b).toArray] w (WrP (DkS k gb gm Wv) k (37, { d with gone := true }) w) := by
  have H := Lib.hid h
  have HM := Lib.hid h1
  have HL := Lib.hid h2
  clear h h1 h2
  generalize bytesV b = B
  go_enter Try.func14, Try.ntmps14
  go_wp2_with fail
  have hu1 : Upd (fun _ => False) w (w.alloc (.cells B.toArray 28)) := (Upd.refl _ w).alloc _
  generalize w.alloc (.cells B.toArray 28) = w1 at *
  have HD1 := Lib.hid (H.out.upd hu1 (fun _ _ h => h))
  have HU1 := Lib.hid hu1
  clear hu1
  refine (may_any k gb gm cb cm Wv d at_ w1 HD1.out).mono ?_
  intro e w' h
  rw [HM.out] at h
  obtain ⟨rfl, rfl⟩ := h
  have c3 : w'.cell? ⟨k, 3, none⟩ = some (.int .i64 0) := by rw [cell_of_row w' k 3 _ 61 (0, 0) HD1.out.cell, ← HL.out]; rfl
  have c4 : w'.cell? ⟨k, 4, none⟩ = some (.bool d.gone) := by rw [cell_of_row w' k 4 _ 61 (0, 0) HD1.out.cell]; rfl
  have f4 := frozen_of_row w' k 4 _ 61 HD1.out.cell
  go_wp2
  go_ret
  have hs := (Upd.refl (fun j => j = k) w').setCell (p := ⟨k, 4, none⟩) (fun _ => rfl) (.bool true)
  refine ⟨rfl, _, ⟨gb, gm, cb, cm, _, HD1.out.re (l := d.left) (g := true) hs (by rw [heap_setCell_same w' k 4 _ 61 _ HD1.out.cell]; rfl) HD1.out.left, rfl⟩, ?_, fun j hj => .inl hj⟩
  exact (HU1.out.mono (fun _ _ h => h.elim)).trans' (hs.mono (fun j _ h => .inl h))
theorem write_dsk (k : Nat) (d : DS) (S : Nat → Prop) (at_ : Int) (b : List UInt8) (w : World) (h : Dsk w k d S) (hb : b.length = 64) (hn : d.ws.length ≤ 1000000) :
    Calls Try.prog 14 #[.pointer (some ⟨k, 0, none⟩), .int .i64 at_, .agg (bytesV b).toArray] w (WrP S k (d.wr at_ b) w) := by
  obtain ⟨gb, gm, cb, cm, Wv, h, rfl⟩ := h
  unfold DS.wr
  by_cases h1 : d.may at_ = 0
  · rw [if_neg (by omega)]
    by_cases h2 : d.left = 0
    · rw [if_pos h2]; exact write_gone k gb gm cb cm Wv d at_ b w h h1 h2
    · rw [if_neg h2]
      have hat : 0 ≤ at_ := by
        unfold DS.may at h1
        split at h1
        · omega
        · omega
      obtain ⟨i, rfl⟩ := Int.eq_ofNat_of_zero_le hat
      exact write_any k gb gm cb cm Wv d i b w h hb h1 h2 hn _ rfl
  · rw [if_pos h1]; exact write_not k gb gm cb cm Wv d at_ b w h h1

set_option maxHeartbeats 1000000 in
set_option maxRecDepth 100000 in
theorem clone_ws (V : Value) (n : Nat) (xs : List Value) (w : World) (ao : Option Addr) (cap : Nat) (hV : V = .slice ao n cap) (hxl : xs.length = n * 65) (hs : ∀ a0, ao = some a0 → ∀ j u, xs[j]? = some u → w.cell? (a0.add j) = some u) (hnn : ao = none → n = 0) (ho : ∀ u ∈ xs, u.oneCell' = true) (hn : n ≤ 1000001) :
    Calls Try.prog 28 #[V] w fun e w' => ∃ V', e = .returned V' ∧ w'.ownsRow w.heap.size 33 65 V' n xs ∧ Upd (fun _ => False) w w' ∧ (V' = .slice none 0 0 ∨ ∃ g c, V' = .slice (some ⟨g, 0, none⟩) n c) := by
  obtain ⟨i0, hi, y0, y1, y2⟩ := info_parts info33
  subst hV
  have q := fun (w : World) => Lib.run_eql_slice_nil (P := Try.prog) w 30 33 ao n cap 0 0 Try.underlying30
  cases ao with
  | none =>
    obtain rfl := hnn rfl
    have hx : xs = [] := List.eq_nil_of_length_eq_zero (by simpa using hxl)
    subst hx
    clear hs
    go_enter Try.func28, Try.ntmps28
    go_wp2
    go_ret
    exact ⟨_, rfl, World.ownsRow_nil _ _ _ _, Upd.refl _ _, .inl rfl⟩
  | some a0 =>
    have HS := Lib.hid (Src.ofSlice (P := Try.prog) (size := 65) (tx := 30) (e' := 33) (w := w.alloc (.cells #[] 33)) Try.underlying30 a0 n cap xs hxl (fun j u hj => ((Upd.refl (fun _ => False) w).alloc _).cell_some (hs a0 rfl j u hj) (fun h => h)) ho)
    have HO : Hid ((w.alloc (.cells #[] 33)).ownsRow w.heap.size 33 65 (.slice (some ⟨w.heap.size, 0, none⟩) 0 0) 0 []) := World.ownsRow_lit w #[] 0 (Nat.le_refl _) (by simp [maxLen]) rfl
    have HZ := Lib.hid (show (Value.agg (Value.int .i64 0 :: List.replicate 64 (Value.int .u8 0)).toArray).cells.size = 65 by simp only [Value.cells, List.size_toArray, List.length_cons, List.length_replicate])
    clear hs
    go_enter Try.func28, Try.ntmps28
    go_wp2_with (at_builtin; go_must (refine wpList_append_src_own _ rfl (.tmp 5) (.tmp 6) 30 30 rfl w.heap.size 33 i0 _ 65 72 Try.underlying30 hi y0 y1 y2 HZ.out _ 0 [] rfl HO.out _ n xs rfl HS.out (by unfold maxLen; omega) (by omega) (by simp) ?c5))
    case c5 =>
    intro v' w1 hown hgrow hnew hshape
    have HN := Lib.hid hown
    have HG := Lib.hid hgrow
    have HSH := Lib.hid hshape
    clear hown hgrow hnew hshape
    go_wp2
    go_ret
    refine ⟨_, rfl, by simpa using HN.out, ((Upd.refl _ w).alloc _).grown HG.out (fun k hk hlt => by simp [Value.ownBlock] at hk; omega), by simpa using HSH.out⟩
set_option maxHeartbeats 1000000 in
set_option maxRecDepth 100000 in
theorem clone_bl (V : Value) (n : Nat) (xs : List Value) (w : World) (ao : Option Addr) (cap : Nat) (hV : V = .slice ao n cap) (hxl : xs.length = n * 64) (hs : ∀ a0, ao = some a0 → ∀ j u, xs[j]? = some u → w.cell? (a0.add j) = some u) (hnn : ao = none → n = 0) (ho : ∀ u ∈ xs, u.oneCell' = true) (hn : n ≤ 1000001) :
    Calls Try.prog 32 #[V] w fun e w' => ∃ V', e = .returned V' ∧ w'.ownsRow w.heap.size 28 64 V' n xs ∧ Upd (fun _ => False) w w' ∧ (V' = .slice none 0 0 ∨ ∃ g c, V' = .slice (some ⟨g, 0, none⟩) n c) := by
  obtain ⟨i0, hi, y0, y1, y2⟩ := info_parts info28
  subst hV
  have q := fun (w : World) => Lib.run_eql_slice_nil (P := Try.prog) w 59 28 ao n cap 0 0 Try.underlying59
  cases ao with
  | none =>
    obtain rfl := hnn rfl
    have hx : xs = [] := List.eq_nil_of_length_eq_zero (by simpa using hxl)
    subst hx
    clear hs
    go_enter Try.func32, Try.ntmps32
    go_wp2
    go_ret
    exact ⟨_, rfl, World.ownsRow_nil _ _ _ _, Upd.refl _ _, .inl rfl⟩
  | some a0 =>
    have HS := Lib.hid (Src.ofSlice (P := Try.prog) (size := 64) (tx := 59) (e' := 28) (w := w.alloc (.cells #[] 28)) Try.underlying59 a0 n cap xs hxl (fun j u hj => ((Upd.refl (fun _ => False) w).alloc _).cell_some (hs a0 rfl j u hj) (fun h => h)) ho)
    have HO : Hid ((w.alloc (.cells #[] 28)).ownsRow w.heap.size 28 64 (.slice (some ⟨w.heap.size, 0, none⟩) 0 0) 0 []) := World.ownsRow_lit w #[] 0 (Nat.le_refl _) (by simp [maxLen]) rfl
    have HZ := Lib.hid (show (Value.agg (List.replicate 64 (Value.int .u8 0)).toArray).cells.size = 64 by simp only [Value.cells, List.size_toArray, List.length_cons, List.length_replicate])
    clear hs
    go_enter Try.func32, Try.ntmps32
    go_wp2_with (at_builtin; go_must (refine wpList_append_src_own _ rfl (.tmp 5) (.tmp 6) 59 59 rfl w.heap.size 28 i0 _ 64 64 Try.underlying59 hi y0 y1 y2 HZ.out _ 0 [] rfl HO.out _ n xs rfl HS.out (by unfold maxLen; omega) (by omega) (by simp) ?c5))
    case c5 =>
    intro v' w1 hown hgrow hnew hshape
    have HN := Lib.hid hown
    have HG := Lib.hid hgrow
    have HSH := Lib.hid hshape
    clear hown hgrow hnew hshape
    go_wp2
    go_ret
    refine ⟨_, rfl, by simpa using HN.out, ((Upd.refl _ w).alloc _).grown HG.out (fun k hk hlt => by simp [Value.ownBlock] at hk; omega), by simpa using HSH.out⟩
/-- What Writes and Cut give of a disk's own list. -/
theorem own_src {w : World} {V : Value} {n : Nat} {xs : List Value} (h : w.ownsRow 0 33 65 V n xs) : ∃ ao cap, V = .slice ao n cap ∧ (∀ a0, ao = some a0 → ∀ j u, xs[j]? = some u → w.cell? (a0.add j) = some u) ∧ (ao = none → n = 0) := by
  rcases h.2 with ⟨rfl, rfl⟩ | ⟨g, cap, cur, rfl, _⟩
  · exact ⟨none, 0, rfl, fun a0 h => (by cases h), fun _ => rfl⟩
  · refine ⟨some ⟨g, 0, none⟩, cap, rfl, fun a0 h0 => ?_, fun h => by cases h⟩
    obtain rfl := Option.some.inj h0
    exact h.cells (g := g) rfl
set_option maxHeartbeats 1000000 in
set_option maxRecDepth 100000 in
theorem writes_dsk (k : Nat) (d : DS) (S : Nat → Prop) (w : World) (h : Dsk w k d S) (hn : d.ws.length ≤ 1000000) :
    Calls Try.prog 16 #[.pointer (some ⟨k, 0, none⟩)] w fun e w' => ∃ V', e = .returned V' ∧ w'.ownsRow w.heap.size 33 65 V' d.ws.length (wsV d.ws) ∧ Upd (fun _ => False) w w' ∧ (V' = .slice none 0 0 ∨ ∃ g c, V' = .slice (some ⟨g, 0, none⟩) d.ws.length c) := by
  obtain ⟨gb, gm, cb, cm, Wv, h, rfl⟩ := h
  have c2 : w.cell? ⟨k, 2, none⟩ = some Wv := by rw [cell_of_row w k 2 _ 61 (0, 0) h.cell]; rfl
  have hw := h.ws
  obtain ⟨ao, cap, rfl, h1, h2⟩ := own_src h.ws
  have HC := Lib.hid (clone_ws _ d.ws.length (wsV d.ws) w ao cap rfl hw.1 h1 h2 (wsV_one _) (by omega))
  clear h hw h1 h2
  go_enter Try.func16, Try.ntmps16
  go_wp2_with fail
  refine HC.out.mono ?_
  rintro e w' ⟨V', rfl, q1, q2, q3⟩
  have Q1 := Lib.hid q1
  have Q2 := Lib.hid q2
  have Q3 := Lib.hid q3
  clear q1 q2 q3
  go_wp2
  go_ret
  exact ⟨_, rfl, Q1.out, Q2.out, Q3.out⟩
/-- The state behind a Mark. -/
def DS.mark (d : DS) : DS := { d with ml := d.bl, ws := [] }
set_option maxHeartbeats 1000000 in
set_option maxRecDepth 100000 in
theorem mark_dsk (k : Nat) (d : DS) (S : Nat → Prop) (w : World) (h : Dsk w k d S) :
    Calls Try.prog 26 #[.pointer (some ⟨k, 0, none⟩)] w fun e w' => e = .returned (.tuple #[]) ∧ ∃ S', Dsk w' k d.mark S' ∧ Upd (fun j => j = k) w w' ∧ ∀ j, S' j → S j ∨ w.heap.size ≤ j := by
  obtain ⟨gb, gm, cb, cm, Wv, h, rfl⟩ := h
  have c0 : w.cell? ⟨k, 0, none⟩ = some (.slice (some ⟨gb, 0, none⟩) 255 cb) := by rw [cell_of_row w k 0 _ 61 (0, 0) h.cell]; rfl
  have HC := Lib.hid (clone_bl (.slice (some ⟨gb, 0, none⟩) 255 cb) 255 (rowsL 255 (fun i => bytesV (d.bl i))).flatten w _ cb rfl (by rw [flat_len _ (rowsL_sz h.bl.len), rowsL_len]) (fun a0 h0 j u hj => by
    obtain rfl := Option.some.inj h0
    rw [Addr.add_mid, Nat.zero_add]; exact h.bl.flat_at j u hj) (fun h => by cases h) (fun u hu => by
    obtain ⟨l, hl, hu⟩ := List.mem_flatten.1 hu
    obtain ⟨i, _, rfl⟩ := List.mem_map.1 hl
    exact bytesV_one _ u hu) (by omega))
  have H := Lib.hid h
  clear h
  go_enter Try.func26, Try.ntmps26
  go_wp2_with fail
  refine HC.out.mono ?_
  rintro e w' ⟨V', rfl, q1, q2, q3⟩
  obtain ⟨g, c, rfl⟩ : ∃ g c, V' = .slice (some ⟨g, 0, none⟩) 255 c := by
    rcases q3 with rfl | h
    · rcases q1.2 with ⟨_, h⟩ | ⟨_, _, _, h, _⟩
      · omega
      · cases h
    · exact h
  have hD := H.out.upd q2 (fun _ _ h => h)
  have a1 : w'.cell? ⟨k, 1, none⟩ = some (.slice (some ⟨gm, 0, none⟩) 255 cm) := by rw [cell_of_row w' k 1 _ 61 (0, 0) hD.cell]; rfl
  have a2 : w'.cell? ⟨k, 2, none⟩ = some Wv := by rw [cell_of_row w' k 2 _ 61 (0, 0) hD.cell]; rfl
  have f1 := frozen_of_row w' k 1 _ 61 hD.cell
  have f2 := frozen_of_row w' k 2 _ 61 hD.cell
  have HD := Lib.hid hD
  have Q1 := Lib.hid q1
  have Q2 := Lib.hid q2
  clear q1 q2 q3 hD c0
  go_wp2
  go_end0
  have s1 := (Upd.refl (fun j => j = k) w').setCell (p := ⟨k, 1, none⟩) (fun _ => rfl) (.slice (some ⟨g, 0, none⟩) 255 c)
  have s2 := s1.setCell (p := ⟨k, 2, none⟩) (fun _ => rfl) (.slice none 0 0)
  have hk := (Array.getElem?_eq_some_iff.1 H.out.cell).1
  have hb := H.out.bl.lt
  obtain ⟨hl, ⟨hx, _⟩ | ⟨g', cap, cur, hx, hg0, hgc, hn1, hn2, hn3, hn4⟩⟩ := Q1.out
  · cases hx
  · simp only [Value.slice.injEq, Option.some.injEq, Addr.mk.injEq, and_true, true_and] at hx
    obtain ⟨rfl, rfl⟩ := hx
    refine ⟨rfl, _, ⟨gb, g, cb, c, .slice none 0 0, ⟨?_, HD.out.bl.upd s2 HD.out.ap.1, ?_, World.ownsRow_nil _ 0 33 65, fun x hx => (by simp [DS.mark] at hx), ⟨HD.out.ap.1, by omega, by omega, by simp [Value.ownBlock], by simp [Value.ownBlock], by simp [Value.ownBlock]⟩, ⟨HD.out.cap.1, HD.out.cap.2.1, hn1, hn2⟩, HD.out.left⟩, rfl⟩, ?_, ?_⟩
    · have e1 := heap_setCell_same w' k 1 _ 61 (.slice (some ⟨g, 0, none⟩) 255 c) HD.out.cell
      rw [heap_setCell_same _ k 2 _ 61 _ e1]; rfl
    · exact (BRow.of_row hgc (by rw [hn3]; exact Nat.mul_le_mul_right _ hn1) HD.out.bl.len hn4).upd s2 (by omega)
    · exact (Q2.out.mono (fun _ _ h => h.elim)).trans' s2
    · rintro j (h | h | h | h)
      · exact .inl (.inl h)
      · exact .inl (.inr (.inl h))
      · right; omega
      · simp [Value.ownBlock] at h
end Go.Proofs.Ytckgcfkahffibaa
