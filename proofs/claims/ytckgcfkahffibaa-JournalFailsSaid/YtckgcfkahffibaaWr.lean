import Derived.Test.YtckgcfkahffibaaNew
import Derived.Deep.DeepCutAuto
import Derived.Deep.CutBlock
namespace Go.Proofs.Ytckgcfkahffibaa
open Go.RowKit
set_option linter.unusedVariables false
set_option linter.unusedSimpArgs false
def DS.put (d : DS) (i : Nat) (b : List UInt8) (l : Int) : DS := { d with left := l, bl := fun j => if j = i then b else d.bl j, ws := d.ws ++ [(i, b)] }
/-- What a write tells, and what is there then. -/
def DS.wr (d : DS) (at_ : Int) (b : List UInt8) : Int × DS :=
  if d.may at_ ≠ 0 then (d.may at_, d) else if d.left = 0 then (37, { d with gone := true })
  else (0, d.put at_.toNat b (if 0 < d.left then d.left - 1 else d.left))
theorem info33 : (Try.prog.info? 33).map (fun i => (i.zero, i.size, i.bytes)) = some (some (Value.agg (Value.int .i64 0 :: List.replicate 64 (Value.int .u8 0)).toArray), 65, 72) := by kernel_rfl
theorem wsV_append (l : List (Nat × List UInt8)) (x : Nat × List UInt8) : wsV (l ++ [x]) = wsV l ++ wcells x := by simp [wsV]
theorem Dk.push {w w3 : World} {k gb gm cb cm : Nat} {Wv v' : Value} {d : DS} {x : Nat × List UInt8} (h : Dk w k gb gm cb cm Wv d) (hu : Upd (fun j => Wv.ownBlock = some j) w w3) (ho : w3.ownsRow 0 33 65 v' (d.ws.length + 1) (wsV d.ws ++ wcells x)) (hx : x.1 < 255 ∧ x.2.length = 64) (hv : ∀ j, v'.ownBlock = some j → Wv.ownBlock = some j ∨ w.heap.size ≤ j) :
    Dk (w3.setCell ⟨k, 2, none⟩ v') k gb gm cb cm v' { d with ws := d.ws ++ [x] } := by
  have hk := (Array.getElem?_eq_some_iff.1 h.cell).1
  have hb := h.bl.lt
  have hm := h.ml.lt
  have hv' : ∀ j, j < w.heap.size → Wv.ownBlock ≠ some j → v'.ownBlock ≠ some j := fun j hj hn e => by
    rcases hv j e with h1 | h1
    · exact hn h1
    · omega
  have hvk := hv' k hk h.ap.2.2.2.1
  have hc : w3.heap[k]? = _ := hu.heap_some h.cell h.ap.2.2.2.1
  have hs := (Upd.refl (fun j => j = k) w3).setCell (p := ⟨k, 2, none⟩) (fun _ => rfl) v'
  refine ⟨?_, (h.bl.upd hu h.ap.2.2.2.2.1).upd hs h.ap.1, (h.ml.upd hu h.ap.2.2.2.2.2).upd hs h.ap.2.1, ?_, ?_, ⟨h.ap.1, h.ap.2.1, h.ap.2.2.1, hvk, hv' gb hb h.ap.2.2.2.2.1, hv' gm hm h.ap.2.2.2.2.2⟩, h.cap, h.left⟩
  · rw [heap_setCell_same w3 k 2 _ 61 _ hc]; rfl
  · have := ownsRow_upd ho hs (fun j hj e => hvk (by rw [hj, e]))
    rw [wsV_append, List.length_append]
    exact this
  · intro y hy
    rcases List.mem_append.1 hy with hy | hy
    · exact h.at_ y hy
    · rw [List.mem_singleton.1 hy]; exact hx
theorem Dk.putBl {w : World} {k gb gm cb cm : Nat} {Wv : Value} {d : DS} (h : Dk w k gb gm cb cm Wv d) (i : Nat) (hi : i < 255) (b : List UInt8) (hb : b.length = 64) :
    Dk (w.setCells gb (i * 64) (bytesV b)) k gb gm cb cm Wv { d with bl := fun j => if j = i then b else d.bl j } := by
  have hu := upd_setCells (Upd.refl (fun j => j = gb) w) gb (i * 64) (bytesV b) (fun _ => rfl)
  refine ⟨hu.heap_some h.cell (fun e => h.ap.1 e.symm), ?_, h.ml.upd hu (fun e => h.ap.2.2.1 e.symm), ownsRow_upd h.ws hu (fun j hj e => h.ap.2.2.2.2.1 (by rw [hj, e])), h.at_, h.ap, h.cap, h.left⟩
  refine (h.bl.put i hi (bytesV b) (by rw [bytesV_length, hb])).congr (fun j _ => ?_)
  by_cases e : j = i
  · simp [e]
  · simp [e]
theorem foldl_set (V : List Value) : ∀ (Z : Array Value) (o n : Nat), o + n + V.length ≤ Z.size → (List.foldl (fun cs x => cs.setIfInBounds (o + x.snd) x.fst) Z (V.zipIdx n)).toList = Z.toList.take (o + n) ++ V ++ Z.toList.drop (o + n + V.length) := by
  induction V with
  | nil => intro Z o n h; simp
  | cons v V ih =>
    intro Z o n h
    simp only [List.zipIdx_cons, List.foldl_cons, List.length_cons] at h ⊢
    rw [ih _ o (n + 1) (by simp; omega)]
    simp only [Array.toList_setIfInBounds]
    rw [show o + (n + 1) = o + n + 1 by omega, List.drop_set_of_lt (by omega), show o + n + 1 + V.length = o + n + (V.length + 1) by omega]
    rw [List.take_add_one, List.take_set_of_le (by omega)]
    simp [List.getElem?_set, show o + n < Z.size by omega]
theorem info3 : (Try.prog.info? 3).map (fun i => (i.zero, i.size, i.bytes)) = some (some (Value.int .i64 0), 1, 8) := by kernel_rfl
theorem built33 (i : Int) (B : List Value) (hB : B.length = 64) (w : World) : (Instr.build 33 #[(0, .int .i64 i), (1, .agg B.toArray)]).run Try.prog w = .ok (.agg (Value.int .i64 i :: B).toArray) w := by
  apply run_build
  obtain ⟨i0, hi, hz0, hz1, hz2⟩ := info_parts info33
  obtain ⟨i3, hi3, z30, z31, z32⟩ := info_parts info3
  obtain ⟨i28, hi28, z280, z281, z282⟩ := info_parts info28
  have hl : (List.replicate 64 (Value.int .u8 0)).length = 64 := List.length_replicate
  generalize List.replicate 64 (Value.int .u8 0) = Z at *
  have hf := foldl_set B ((Value.int .i64 i :: Z).toArray) 1 0 (by rw [hB, List.size_toArray, List.length_cons, hl]; omega)
  unfold Program.built
  rw [hi, Try.underlying33]
  simp only [Nat.add_zero, hB] at hf
  simp [hz0, hi3, hi28, z31, z281, Instr.fill, Value.cells, hB, hl]
  apply Array.ext'
  rw [hf]
  simp [hl]
theorem fold_all (V : List Value) (n : Nat) (hV : V.length = n) (Z : Array Value) (hZ : Z.size = n) : List.foldl (fun cs x => cs.setIfInBounds x.snd x.fst) Z V.zipIdx = V.toArray := by
  have hf := foldl_set V Z 0 0 (by omega)
  simp only [Nat.zero_add, List.take_zero, List.nil_append] at hf
  apply Array.ext'
  rw [hf, List.drop_of_length_le (by simp; omega), List.append_nil]
theorem builtSlice33 (V : List Value) (hV : V.length = 65) (w : World) : (Instr.buildSlice 30 1 #[(0, .agg V.toArray)]).run Try.prog w = .ok (.slice (some ⟨w.heap.size, 0, none⟩) 1 1) (w.alloc (.cells V.toArray 33)) := by
  have hfold := fold_all V 65 hV
  obtain ⟨Zc, hZ, hz⟩ : ∃ Zc : Array Value, Zc.size = 65 ∧ ∀ w, (zeroValue 33).run Try.prog w = .ok (.agg Zc) w := by
    obtain ⟨i0, hi, hz0, hz1, hz2⟩ := info_parts info33
    have hl : (Value.int .i64 0 :: List.replicate 64 (Value.int .u8 0)).toArray.size = 65 := by rw [List.size_toArray, List.length_cons, List.length_replicate]
    generalize (Value.int .i64 0 :: List.replicate 64 (Value.int .u8 0)).toArray = Z at *
    exact ⟨Z, hl, fun w => by simp [zeroValue, typeInfo, hi, hz0]⟩
  simp [hV, hZ, hz, Instr.buildSlice, go_sem]
  rw [hfold _ (by simp)]
theorem run_value {P : Program} {m : Sem Value} {v : Value} {w w' : World} (h : m.run P w = .ok v w') : (do let v ← m; pure (Next.value v) : Sem Next).run P w = .ok (.value v) w' := by
  rw [Sem.run_bind, h]; rfl
theorem wp_value {P : Program} {o : Oper} {a : Act} {w w' : World} {K : Act → World → Prop} {Q : Exit → Act → World → Prop} {v : Value} (h : (execOp a.eval o).run P w = .ok (.value v) w') (hk : K (a.put o.dst v) w') : o.wp P a w K Q := by
  unfold Oper.wp; rw [h]; exact hk
theorem range_upd {S : Nat → Prop} {w w' : World} {g o : Nat} {B : List Value} (h : w.rangeAt g o B) (hu : Upd S w w') (hg : ¬ S g) : w'.rangeAt g o B := fun j v hv => hu.cell_some (h j v hv) hg
def PushP (S : Nat → Prop) (v : Value) (k gb gm cb cm : Nat) (d : DS) (w wx : World) : Prop :=
  ∃ ao n c, Dk wx k gb gm cb cm (.slice ao n c) d ∧ Upd S w wx ∧ ∀ j, (Value.slice ao n c).ownBlock = some j → v.ownBlock = some j ∨ w.heap.size ≤ j
def WrP (S : Nat → Prop) (k : Nat) (x : Int × DS) (w : World) (e : Ending) (w' : World) : Prop :=
  e = .returned (.int .i64 x.1) ∧ ∃ S', Dsk w' k x.2 S' ∧ Upd S w w' ∧ ∀ j, S' j → S j ∨ w.heap.size ≤ j

set_option maxHeartbeats 1000000 in
set_option maxRecDepth 100000 in
theorem write_any (k gb gm cb cm : Nat) (Wv : Value) (d : DS) (i : Nat) (b : List UInt8) (w : World) (h : Dk w k gb gm cb cm Wv d) (hb : b.length = 64) (h1 : d.may i = 0) (hl : d.left ≠ 0) (hn : d.ws.length ≤ 1000000) (l : Int)
    (hll : l = if 0 < d.left then d.left - 1 else d.left) :
    Calls Try.prog 14 #[.pointer (some ⟨k, 0, none⟩), .int .i64 i, .agg (bytesV b).toArray] w (WrP (DkS k gb gm Wv) k (0, d.put i b l) w) := by
  have H := Lib.hid h
  have H1 := Lib.hid h1
  have hi : i < 255 := by
    unfold DS.may at h1
    split at h1
    · omega
    · omega
  have hBl : (bytesV b).length = 64 := by rw [bytesV_length, hb]
  have hB1 := bytesV_one b
  have HB : Hid (∃ B, B = bytesV b) := ⟨_, rfl⟩
  generalize hBB : bytesV b = B at *
  have HBB := Lib.hid hBB
  have HLL := Lib.hid hll
  have HN := Lib.hid hn
  have HBL := Lib.hid hb
  clear h h1 hBB hll hn hb
  go_enter Try.func14, Try.ntmps14
  go_wp2_with fail
  generalize hZ : w.alloc (.cells B.toArray 28) = w1
  have hg1 : w1.heap[w.heap.size]? = some (.cells B.toArray 28 (0, 0)) := by rw [← hZ]; exact heap_alloc_new w _
  have hu1 : Upd (fun _ => False) w w1 := by rw [← hZ]; exact (Upd.refl _ w).alloc _
  have HD1 := Lib.hid (H.out.upd hu1 (fun _ _ h => h))
  have HU1 := Lib.hid hu1
  have hr1 : w1.rangeAt w.heap.size 0 B := by have := range_row hg1; simpa using this
  have HR1 := Lib.hid hr1
  have hgne : w.heap.size ≠ k ∧ w.heap.size ≠ gb := by
    have h1 := (Array.getElem?_eq_some_iff.1 H.out.cell).1
    have h2 := H.out.bl.lt
    omega
  have HS := Lib.hid (show w.heap.size < w1.heap.size from by rw [← hZ]; simp)
  have HGN := Lib.hid hgne
  generalize hgz : w.heap.size = g at *
  clear hZ hu1 hg1 hgne hr1
  refine (may_any k gb gm cb cm Wv d i w1 HD1.out).mono ?_
  intro e w' h
  rw [H1.out] at h
  obtain ⟨rfl, rfl⟩ := h
  have c3 : w'.cell? ⟨k, 3, none⟩ = some (.int .i64 d.left) := by rw [cell_of_row w' k 3 _ 61 (0, 0) HD1.out.cell]; rfl
  have f3 := frozen_of_row w' k 3 _ 61 HD1.out.cell
  have hle := HD1.out.left
  generalize hdl : d.left = dl at *
  have HDL := Lib.hid hdl
  clear hdl
  have hnext : ∃ w2, w2 = (if 0 < dl then w'.setCell ⟨k, 3, none⟩ (.int .i64 (dl - 1)) else w') ∧ Dk w2 k gb gm cb cm Wv { d with left := l } ∧ w2.rangeAt g 0 B ∧ Upd (fun j => j = k) w w2 ∧ g < w2.heap.size := by
    refine ⟨_, rfl, ?_⟩
    have hd := HD1.out
    have hll := HLL.out
    have hdl := HDL.out
    by_cases h0 : 0 < dl
    · rw [if_pos h0]
      rw [if_pos h0] at hll
      have hu := (Upd.refl (fun j => j = k) w').setCell (p := ⟨k, 3, none⟩) (fun _ => rfl) (.int .i64 (dl - 1))
      refine ⟨hd.re (l := l) (g := d.gone) hu (by rw [heap_setCell_same w' k 3 _ 61 _ hd.cell, hll]; rfl) (by omega), ?_, (HU1.out.mono (fun _ _ h => h.elim)).trans' hu, by have := hu.size; have := HS.out; omega⟩
      intro j v hv
      rw [hu.cell (p := ⟨g, 0 + j, none⟩) HS.out HGN.out.1]
      exact HR1.out j v hv
    · rw [if_neg h0]
      rw [if_neg h0] at hll
      have : { d with left := l } = d := by cases d; simp_all
      rw [this]
      exact ⟨hd, HR1.out, HU1.out.mono (fun _ _ h => h.elim), HS.out⟩
  obtain ⟨w2, hw2, hd2, hr2, hu2, hs2⟩ := hnext
  have HD2 := Lib.hid hd2
  have HR2 := Lib.hid hr2
  have HU2 := Lib.hid hu2
  have HS2 := Lib.hid hs2
  have HW2 := Lib.hid hw2
  clear hd2 hr2 hu2 hs2 hw2
  go_upto_block 5 with fail
  all_goals first
    | (have e : w2 = w'.setCell ⟨k, 3, none⟩ (.int .i64 (dl - 1)) := by have := HW2.out; rw [if_pos (by omega)] at this; exact this
       rw [← e]; clear e)
    | (have e : w2 = w' := by have := HW2.out; rw [if_neg (by omega)] at this; exact this
       rw [← e]; clear e)
  all_goals
    generalize (dl == 0) = bz
    generalize decide (0 < dl) = bp
    have c0 : w2.cell? ⟨k, 0, none⟩ = some (.slice (some ⟨gb, 0, none⟩) 255 cb) := by rw [cell_of_row w2 k 0 _ 61 (0, 0) HD2.out.cell]; rfl
    have hr := HR2.out
    have ht := HD2.out.bl.there i hi
    have hkgb := HD2.out.ap.1
    have hgg := HGN.out.2
    have HKeep : Hid (∀ wx : World, (wx.cell? ⟨k, 0, none⟩ = some (.slice (some ⟨gb, 0, none⟩) 255 cb) ∧ wx.rangeAt g 0 B ∧ wx.there gb (i * 64) 64) → ((wx.setCells gb (i * 64) B).cell? ⟨k, 0, none⟩ = some (.slice (some ⟨gb, 0, none⟩) 255 cb) ∧ (wx.setCells gb (i * 64) B).rangeAt g 0 B ∧ (wx.setCells gb (i * 64) B).there gb (i * 64) 64)) := by
      intro wx ⟨h1, h2, h3⟩
      refine ⟨?_, World.rangeAt_setCells_apart h2 _ _ _ (.inl hgg), World.there_setCells h3 _ _ _⟩
      rw [World.cell?_setCells_out gb B _ wx ⟨k, 0, none⟩ (fun h => absurd h.symm hkgb)]
      exact h1
    have hu := Try.underlying28
    have hsz : (Try.prog.info? 28).map (·.size) = some B.length := by rw [hBl]; exact size28
    have j1 : (0 : Int) ≤ (i : Int) := by omega
    have j2 : (i : Int) < 255 := by omega
    clear hl hle c3 f3
    go_cut [] from 34 to 40 (fun wx => wx = w2.drew.setCells gb (i * 64) B)
    case' first =>
      go_region_held3 (fun wx => wx.cell? ⟨k, 0, none⟩ = some (.slice (some ⟨gb, 0, none⟩) 255 cb) ∧ wx.rangeAt g 0 B ∧ wx.there gb (i * 64) 64) (first | go_keep_ranges | exact HKeep.out _ (by assumption)) (fail)
      go_wp2_with fail
      go_meet
      rfl
    case' rest =>
    have hD3 : Dk wc k gb gm cb cm Wv { d with left := l, bl := fun j => if j = i then b else d.bl j } := by
      rw [hcut, ← HBB.out]
      exact (HD2.out.upd ((Upd.refl (fun _ => False) w2).drew) (fun _ _ h => h)).putBl i hi b HBL.out
    have hR3 : wc.rangeAt g 0 B := by
      rw [hcut]; exact World.rangeAt_setCells_apart ((World.rangeAt_drew ..).2 HR2.out) _ _ _ (.inl hgg)
    have hU3 : Upd (fun j => j = k ∨ j = gb) w wc := by
      rw [hcut]
      exact upd_setCells ((HU2.out.mono (fun j _ h => .inl h)).drew) _ _ _ (fun _ => .inr rfl)
    have c2 : wc.cell? ⟨k, 2, none⟩ = some Wv := by rw [cell_of_row wc k 2 _ 61 (0, 0) hD3.cell]; rfl
    have f2 := frozen_of_row wc k 2 _ 61 hD3.cell
    have HD3 := Lib.hid hD3
    have HR3 := Lib.hid hR3
    have HU3 := Lib.hid hU3
    have HSW := Lib.hid (show w.heap.size ≤ wc.heap.size from hU3.size)
    obtain ⟨ao, nw, cw, hWv⟩ : ∃ ao nw cw, Wv = .slice ao nw cw := by
      rcases hD3.ws.2 with ⟨h, _⟩ | ⟨g', cap, cur, h, _⟩
      · exact ⟨none, 0, 0, h⟩
      · exact ⟨_, _, _, h⟩
    subst hWv
    obtain ⟨V, hV⟩ : ∃ V, V = Value.int .i64 (i : Int) :: B := ⟨_, rfl⟩
    have hVl : V.length = 65 := by rw [hV, List.length_cons, hBl]
    have hV1 : ∀ u ∈ V, u.oneCell' = true := by
      rw [hV]; intro u hu
      rcases List.mem_cons.1 hu with rfl | hu
      · rfl
      · exact hB1 u hu
    have c2a : (wc.alloc (.cells V.toArray 33)).cell? ⟨k, 2, none⟩ = some (.slice ao nw cw) := ((Upd.refl (fun _ => False) wc).alloc _).cell_some c2 (fun h => h)
    obtain ⟨i33, hi33, y0, y1, y2⟩ := info_parts info33
    have hO8 : (wc.drew.alloc (.cells V.toArray 33)).ownsRow 0 33 65 (.slice ao nw cw) d.ws.length (wsV d.ws) := ownsRow_upd hD3.ws (((Upd.refl (fun _ => False) wc).drew).alloc _) (fun _ _ h => h)
    have HO8 := Lib.hid hO8
    have HL1 := Lib.hid (show d.ws.length + 1 ≤ maxLen by have := HN.out; unfold maxLen; omega)
    have HL2 := Lib.hid (show (d.ws.length + 1) * 72 ≤ 140737488355328 by have := HN.out; omega)
    have hPush : ∀ v' w3, w3.ownsRow 0 33 65 v' (d.ws.length + 1) (wsV d.ws ++ V) → (wc.drew.alloc (.cells V.toArray 33)).grownBy w3 (Value.slice ao nw cw).ownBlock → (∀ j, v'.ownBlock = some j → (Value.slice ao nw cw).ownBlock = some j ∨ (wc.drew.alloc (.cells V.toArray 33)).heap.size ≤ j) →
        w3.rangeAt g 0 B ∧ w3.cell? ⟨k, 2, none⟩ = some (.slice ao nw cw) ∧ w3.frozen? ⟨k, 2, none⟩ = false ∧ (∀ ao' n' c', v' = .slice ao' n' c' → PushP (DkS k gb gm (.slice ao nw cw)) (.slice ao nw cw) k gb gm cb cm (d.put i b l) w (w3.setCell ⟨k, 2, none⟩ v')) ∧ (w3.setCell ⟨k, 2, none⟩ v').rangeAt g 0 B := by
      intro v' w3 p1 p2 p3
      have hu8 : Upd (fun j => (Value.slice ao nw cw).ownBlock = some j) wc w3 := ((Upd.refl _ wc).drew.alloc _).grown p2 (fun j h _ => h)
      have hgo : (Value.slice ao nw cw).ownBlock ≠ some g := fun h => by
        have h1 := own_lt H.out.ws h
        omega
      have hr3 := range_upd hR3 hu8 hgo
      have hs := (Upd.refl (fun j => j = k) w3).setCell (p := ⟨k, 2, none⟩) (fun _ => rfl) v'
      refine ⟨hr3, hu8.cell_some c2 (hD3.ap.2.2.2.1), ?_, ?_, range_upd hr3 hs HGN.out.1⟩
      · rw [hu8.frozen (p := ⟨k, 2, none⟩) (Array.getElem?_eq_some_iff.1 hD3.cell).1 hD3.ap.2.2.2.1]; exact f2
      · rintro ao' n' c' rfl
        have hv : ∀ j, (Value.slice ao' n' c').ownBlock = some j → (Value.slice ao nw cw).ownBlock = some j ∨ wc.heap.size ≤ j := fun j hj => by
          rcases p3 j hj with h | h
          · exact .inl h
          · right; simp at h; omega
        refine ⟨ao', n', c', hD3.push (x := (i, b)) hu8 (by unfold wcells; rw [HBB.out, ← hV]; exact p1) ⟨hi, HBL.out⟩ hv, ?_, fun j hj => ?_⟩
        · refine Upd.setCell (S := DkS k gb gm (.slice ao nw cw)) ?_ (p := ⟨k, 2, none⟩) (fun _ => .inl rfl) _
          refine (hU3.mono (S' := DkS k gb gm (.slice ao nw cw)) (fun j _ h => ?_)).trans' (hu8.mono (fun j _ h => .inr (.inr (.inr h))))
          rcases h with h | h
          · exact .inl h
          · exact .inr (.inl h)
        · rcases hv j hj with h | h
          · exact .inl h
          · right; have := hU3.size; omega
    have HPush := Lib.hid hPush
    have HV := Lib.hid hV
    have HV1 := Lib.hid hV1
    clear hO8 hPush hcut hD3 hU3 c0 hr ht HKeep HR2 HD2 HU2 HW2 HD1 HU1 HR1 hV hV1
    go_wp2_with fail
    go_cut [] from 41 to 52 (PushP (DkS k gb gm (.slice ao nw cw)) (.slice ao nw cw) k gb gm cb cm (d.put i b l) w)
    case' first =>
      refine wp_region_noPanic ?_
      have hS : wc.drew.rangeAt g 0 B := (World.rangeAt_drew ..).2 hR3
      refine wp_region_held (S := fun wx => wx.rangeAt g 0 B) (by kernel_rfl) ?_
      refine wpAnyH_take (i := 0) (v := .pointer (some ⟨k, 0, none⟩)) (List.getElem?_toArray.trans rfl) (by kernel_rfl) (by kernel_rfl) (by kernel_rfl) (fun _ _ _ h => h) (Or.inl ⟨by rfl, fun w _ => by rfl⟩) hS ?_
      simp only [Act.put, List.setIfInBounds_toArray, List.set_cons_zero, List.set_cons_succ]
      refine wpAnyH_take (i := 1) (v := .pointer (some ⟨k, 0, none⟩)) (List.getElem?_toArray.trans rfl) (by kernel_rfl) (by kernel_rfl) (by kernel_rfl) (fun _ _ _ h => h) (Or.inl ⟨by rfl, fun w _ => by rfl⟩) hS ?_
      simp only [Act.put, List.setIfInBounds_toArray, List.set_cons_zero, List.set_cons_succ]
      refine wpAnyH_take (i := 2) (v := .pointer (some ⟨k, 0, none⟩)) (List.getElem?_toArray.trans rfl) (by kernel_rfl) (by kernel_rfl) (by kernel_rfl) (fun _ _ _ h => h) (Or.inl ⟨by rfl, fun w _ => by go_simp⟩) hS ?_
      simp only [Act.put, List.setIfInBounds_toArray, List.set_cons_zero, List.set_cons_succ]
      refine wpAnyH_take (i := 3) (v := .pointer (some ⟨k, 2, none⟩)) (List.getElem?_toArray.trans rfl) (by kernel_rfl) (by kernel_rfl) (by kernel_rfl) (fun _ _ _ h => h) (Or.inl ⟨by rfl, fun w _ => by go_simp⟩) hS ?_
      simp only [Act.put, List.setIfInBounds_toArray, List.set_cons_zero, List.set_cons_succ]
      refine wpAnyH_take (i := 5) (v := .int .i64 (i : Int)) (List.getElem?_toArray.trans rfl) (by kernel_rfl) (by kernel_rfl) (by kernel_rfl) (fun _ _ _ h => h) (Or.inl ⟨by rfl, fun w _ => by rfl⟩) hS ?_
      simp only [Act.put, List.setIfInBounds_toArray, List.set_cons_zero, List.set_cons_succ]
      refine wpAnyH_take (i := 6) (v := .agg B.toArray) (List.getElem?_toArray.trans rfl) (by kernel_rfl) (by kernel_rfl) (by kernel_rfl) (fun _ _ _ h => h) (yieldsIf_load_mid (by rfl) 28 _ rfl g 0 rfl B _ (fun _ h => h) Try.underlying28 rfl hsz) hS ?_
      simp only [Act.put, List.setIfInBounds_toArray, List.set_cons_zero, List.set_cons_succ]
      refine wpAnyH_take (i := 7) (v := .agg V.toArray) (List.getElem?_toArray.trans rfl) (by kernel_rfl) (by kernel_rfl) (by kernel_rfl) (fun _ _ _ h => h) (Or.inl ⟨by rfl, fun w _ => run_value (by rw [List.map_toArray, HV.out]; exact built33 i B hBl w)⟩) hS ?_
      simp only [Act.put, List.setIfInBounds_toArray, List.set_cons_zero, List.set_cons_succ]
      refine wpAnyH_ready (rs := [4, 8]) (by kernel_rfl) (by simp) (AllReadyH.cons (List.getElem?_toArray.trans rfl) (fun K hK => ?_) (AllReadyH.cons (List.getElem?_toArray.trans rfl) (fun K hK => ?_) AllReadyH.nil))
      case' refine_1 =>
        go_simp
        refine hK.out _ _ hS (fun _ => ?_)
        refine wpAnyH_ready (rs := [8]) (by kernel_rfl) (by simp) (AllReadyH.cons (List.getElem?_toArray.trans rfl) (fun K hK => ?_) AllReadyH.nil)
        rw [if_pos (by rfl)]
        refine wp_value (run_value (by rw [List.map_toArray]; exact builtSlice33 V hVl _)) ?_
        refine hK.out _ _ (World.rangeAt_alloc hS _) (fun _ => ?_)
        simp only [Act.put, List.setIfInBounds_toArray, List.set_cons_zero, List.set_cons_succ]
      case' refine_2 =>
        rw [if_pos (by rfl)]
        refine wp_value (run_value (by rw [List.map_toArray]; exact builtSlice33 V hVl _)) ?_
        refine hK.out _ _ (World.rangeAt_alloc hS _) (fun _ => ?_)
        simp only [Act.put, List.setIfInBounds_toArray, List.set_cons_zero, List.set_cons_succ]
        refine wpAnyH_ready (rs := [4]) (by kernel_rfl) (by simp) (AllReadyH.cons (List.getElem?_toArray.trans rfl) (fun K hK => ?_) AllReadyH.nil)
        go_simp
        refine hK.out _ (wc.drew.alloc (.cells V.toArray 33)) (World.rangeAt_alloc hS _) (fun _ => ?_)
      all_goals
        refine wpAnyH_ready (rs := [9]) (by kernel_rfl) (by simp) (AllReadyH.cons (List.getElem?_toArray.trans rfl) (fun K hK => ?_) AllReadyH.nil)
        refine step_append_src_own _ (by rfl) _ _ 30 30 (by rfl) 0 33 i33 _ 65 72 Try.underlying30 hi33 y0 y1 y2 (by simp only [Value.cells, List.size_toArray, List.length_cons, List.length_replicate]) (.slice ao nw cw) d.ws.length (wsV d.ws) (by rfl) HO8.out _ 1 V (by rfl) (Src.ofSlice _ Try.underlying30 _ _ _ _ (by rw [hVl]) (World.news_of_block (heap_alloc_new wc.drew _)) HV1.out) HL1.out HL2.out (Nat.zero_le _) ?_
        intro v' w3 p1 p2 p3 p4
        have hp := HPush.out v' w3 p1 p2 p3
        obtain ⟨ao', n', c', rfl⟩ : ∃ ao' n' c', v' = .slice ao' n' c' := by
          rcases p4 with h | ⟨g1, c1, h⟩
          · exact ⟨none, 0, 0, h⟩
          · exact ⟨_, _, _, h⟩
        obtain ⟨q1, q2, q3, q4, q5⟩ := hp
        refine hK.out _ _ q1 (fun _ => ?_)
        simp only [Act.put, List.setIfInBounds_toArray, List.set_cons_zero, List.set_cons_succ]
        have Q4 := Lib.hid q4
        clear p1 p2 p3 p4 q4
        refine wpAnyH_take (i := 10) (v := .pointer (some ⟨k, 0, none⟩)) (List.getElem?_toArray.trans rfl) (by kernel_rfl) (by kernel_rfl) (by kernel_rfl) (fun _ _ _ h => h) (Or.inl ⟨by rfl, fun w _ => by go_simp⟩) q1 ?_
        simp only [Act.put, List.setIfInBounds_toArray, List.set_cons_zero, List.set_cons_succ]
        refine wpAnyH_take (i := 11) (v := .pointer (some ⟨k, 2, none⟩)) (List.getElem?_toArray.trans rfl) (by kernel_rfl) (by kernel_rfl) (by kernel_rfl) (fun _ _ _ h => h) (Or.inl ⟨by rfl, fun w _ => by go_simp⟩) q1 ?_
        simp only [Act.put, List.setIfInBounds_toArray, List.set_cons_zero, List.set_cons_succ]
        refine wpAnyH_ready (rs := [12]) (by kernel_rfl) (by simp) (AllReadyH.cons (List.getElem?_toArray.trans rfl) (fun K hK => ?_) AllReadyH.nil)
        go_simp
        refine hK.out _ _ q5 (fun _ => ?_)
        refine wpAnyH_done (by kernel_rfl) ?_ _
        refine NoPanic.normal ?_
        go_wp2_with fail
        go_meet
        exact Q4.out _ _ _ rfl
    case' rest =>
    have HC := Lib.hid hcut
    clear hcut c2 f2 c2a
    go_wp2_with fail
    go_ret
    obtain ⟨ao', n', c', q1, q2, q3⟩ := HC.out
    exact ⟨rfl, _, ⟨gb, gm, cb, cm, _, q1, rfl⟩, q2, fun j hj => by
      rcases hj with h | h | h | h
      · exact .inl (.inl h)
      · exact .inl (.inr (.inl h))
      · exact .inl (.inr (.inr (.inl h)))
      · rcases q3 j h with h | h
        · exact .inl (.inr (.inr (.inr h)))
        · exact .inr h⟩
end Go.Proofs.Ytckgcfkahffibaa
