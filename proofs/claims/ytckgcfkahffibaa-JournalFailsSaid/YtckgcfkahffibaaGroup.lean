import Derived.Test.YtckgcfkahffibaaFree2
namespace Go.Proofs.Ytckgcfkahffibaa
open Go.RowKit
set_option linter.unusedVariables false
set_option linter.unusedSimpArgs false
theorem wpList_run {P : Program} {ops : Array Oper} {rest : List Oper} {o : Oper} {a : Act} {w w' : World} {Q : Exit → Act → World → Prop} {v : Value} (hg : o.guard = none) (h : (execOp a.eval o).run P w = .ok (.value v) w') (hk : wpList P ops Q rest (a.put o.dst v) w') : wpList P ops Q (o :: rest) a w :=
  wpList_plain hg fun K hK => wp_value h (hK _ _ hk)
/-- A group being made. -/
structure GJ (w wr : World) (V : Value) (gl : List (Nat × List UInt8)) : Prop where
  o : wr.ownsRow w.heap.size 33 65 V gl.length (wsV gl)
  g : Good gl
  u : Upd (fun _ => False) w wr
theorem GJ.q {w wr wx : World} {V : Value} {gl : List (Nat × List UInt8)} (h : GJ w wr V gl) (hu : Upd (fun _ => False) wr wx) : GJ w wx V gl := ⟨ownsRow_upd h.o hu (fun _ _ h => h), h.g, h.u.trans' hu⟩
theorem GJ.at {w wr : World} {g c : Nat} {gl : List (Nat × List UInt8)} (h : GJ w wr (.slice (some ⟨g, 0, none⟩) gl.length c) gl) (i : Nat) (hi : i < gl.length) : wr.cell? ⟨g, i * 65, none⟩ = some (.int .i64 ((gl[i]).1 : Int)) :=
  ws_at (ownsRow_base h.o (fun _ _ => Nat.zero_le _)) (fun x hx => (h.g.at_ x hx).2) i hi 0 _ rfl
theorem Good.snoc {gl : List (Nat × List UInt8)} (h : Good gl) (hl : gl.length < 24) {x : Nat × List UInt8} (hx : 25 ≤ x.1 ∧ x.1 < 255 ∧ x.2.length = 64) (hn : x.1 ∉ gl.map (·.1)) : Good (gl ++ [x]) := by
  refine ⟨fun y hy => ?_, ?_, by simp; omega⟩
  · rcases List.mem_append.1 hy with hy | hy
    · exact h.at_ y hy
    · rw [List.mem_singleton.1 hy]; exact hx
  · rw [List.map_append, List.nodup_append]
    refine ⟨h.nd, by simp, ?_⟩
    intro a ha b hb
    simp at hb
    rw [hb]
    rintro rfl
    exact hn ha
def GroupP (w : World) (e : Ending) (w' : World) : Prop := ∃ ao c gl, e = .returned (.slice ao gl.length c) ∧ GJ w w' (.slice ao gl.length c) gl

set_option maxHeartbeats 2000000 in
set_option maxRecDepth 100000 in
theorem group_any (v : Value) (L : List (Int × UInt8)) (w : World) (hL : IB w 2 0 1 v L) (hLm : L.length ≤ 9223372036854775807) : Calls Try.prog 22 #[v] w (GroupP w) := by
  have hL0 := hL
  obtain ⟨ao, cap, rfl, hc⟩ := hL
  have HC := Lib.hid hc
  clear hL0 hc
  go_enter Try.func22, Try.ntmps22
  go_upto_block 0 with fail
  go_cut [3] (fun s wx => ∃ ao c gl, s = .slice ao gl.length c ∧ GJ w wx (.slice ao gl.length c) gl)
  case first =>
    go_wp2_with fail
    go_loopw [3, 4] (fun t i wr => ∃ (q : Nat) (gl : List (Nat × List UInt8)) (av : Option Addr) (c : Nat), t = .slice av gl.length c ∧ i = .int .i64 q ∧ q ≤ L.length ∧ GJ w wr (.slice av gl.length c) gl) (fun _ i _ => L.length - (intOf i).toNat)
    case atStart => exact ⟨0, [], none, 0, rfl, rfl, Nat.zero_le _, World.ownsRow_nil _ _ _ _, ⟨fun x hx => by simp at hx, by simp, by simp⟩, Upd.refl _ _⟩
    case round =>
      obtain ⟨q, gl, av, c, rfl, rfl, hq, hj⟩ := hrel
      have HJ := Lib.hid hj
      clear hj
      have hg24 := HJ.out.g.len
      by_cases hlt : q < L.length
      · by_cases h24 : gl.length < 24
        · obtain ⟨b, off, rfl, hcell⟩ : ∃ b off, ao = some ⟨b, off, none⟩ ∧ ∀ (i : Nat) (h : i < L.length), w.cell? ⟨b, off + i * 2 + 0, none⟩ = some (.int .i64 (L[i]).1) ∧ w.cell? ⟨b, off + i * 2 + 1, none⟩ = some (byteV (L[i]).2) ∧ I64 (L[i]).1 := by
            rcases HC.out with h | h
            · rw [h] at hlt; simp at hlt
            · exact h
          obtain ⟨g1, g3, g64⟩ := hcell q hlt
          generalize L[q] = x at *
          obtain ⟨xa, xb⟩ := x
          simp only at g1 g3 g64
          have HG3 := Lib.hid g3
          have c1 : wr.cell? ⟨b, off + q * 2, none⟩ = some (.int .i64 xa) := HJ.out.u.cell_some g1 (fun h => h)
          have d1 : decide (q < L.length) = true := by simp; omega
          have d2 : decide ((gl.length : Int) < 24) = true := by simp; omega
          have d3 : (q : Int) < (L.length : Int) := by omega
          have d5 : q + 1 ≤ L.length := by omega
          have H24 := Lib.hid h24
          clear hcell g1 g3 hlt hq h24 hg24
          go_wp2_with fail
          refine (within_any xa 229 g64.1 g64.2 (by omega) (by omega) wr).mono ?_
          rintro e w3 ⟨⟨r, hr, rfl⟩, rfl⟩
          obtain ⟨at_, hat⟩ : ∃ at_ : Nat, (25 : Int) + r = at_ := ⟨25 + r, by omega⟩
          have HAT := Lib.hid (show 25 ≤ at_ ∧ at_ < 255 by omega)
          clear c1 g64
          go_wp2_with fail
          clear hat
          obtain ⟨wo, rfl⟩ : ∃ wo : World, wo = w3 := ⟨_, rfl⟩
          have b24 : gl.length ≤ 24 := HJ.out.g.len
          go_loopw [6, 7] (fun b j wi => ∃ (p : Nat) (bb : Bool), b = .bool bb ∧ j = .int .i64 p ∧ p ≤ gl.length ∧ (bb = true ↔ at_ ∈ (gl.take p).map (·.1)) ∧ wi = wo) (fun _ j _ => gl.length - (intOf j).toNat)
          case atStart => exact ⟨0, false, rfl, rfl, Nat.zero_le _, by simp, rfl⟩
          case round =>
            obtain ⟨p, bb, rfl, rfl, hp, hbb, rfl⟩ := hrel
            have HBB := Lib.hid hbb
            clear hbb
            by_cases hlp : p < gl.length
            · obtain ⟨g, rfl⟩ : ∃ g, av = some ⟨g, 0, none⟩ := by
                rcases HJ.out.o.2 with ⟨_, h⟩ | ⟨g, _, _, h, _⟩
                · omega
                · simp only [Value.slice.injEq] at h
                  exact ⟨g, h.1⟩
              have hcl : gl.length ≤ c := by
                rcases HJ.out.o.2 with ⟨h, _⟩ | ⟨g', c', _, h, _, _, hc, _⟩
                · simp only [Value.slice.injEq, reduceCtorEq, false_and] at h
                · simp only [Value.slice.injEq, Option.some.injEq, Addr.mk.injEq, and_true, true_and] at h
                  omega
              have cp := HJ.out.at p hlp
              obtain ⟨y, hy⟩ : ∃ y, y = gl[p] := ⟨_, rfl⟩
              rw [← hy] at cp
              have HY := Lib.hid (show gl[p]? = some y by rw [hy]; exact List.getElem?_eq_getElem hlp)
              have f1 : (p : Int) < (gl.length : Int) := by omega
              have f2 : (p : Int) ≤ (c : Int) := by omega
              have f0 : (0 : Int) ≤ (p : Int) := by omega
              have f3 : p + 1 ≤ gl.length := by omega
              have HST := Lib.hid (show ∀ z : Nat, z ∈ (gl.take (p + 1)).map (·.1) ↔ (z ∈ (gl.take p).map (·.1) ∨ z = y.1) by
                intro z
                rw [List.take_add_one, HY.out, List.map_append, List.mem_append]
                simp)
              clear hy hlp hp
              cases bb with
              | true =>
                go_wp2_with fail
                go_roundw
                case rel => exact ⟨p + 1, true, rfl, by go_num, f3, ⟨fun _ => (HST.out _).2 (.inl (HBB.out.1 rfl)), fun _ => rfl⟩, by first | exact rfl | trivial⟩
                case measure => simp [intOf]; omega
              | false =>
                by_cases hya : y.1 = at_
                · have f5 : ((y.1 : Int) == (at_ : Int)) = true := by rw [hya]; simp
                  have HYA := Lib.hid hya
                  generalize y.1 = yi at *
                  clear hya
                  go_wp2_with fail
                  go_roundw
                  case rel => exact ⟨p + 1, true, by first | rfl | (simp [HYA.out]), by go_num, f3, ⟨fun _ => (HST.out _).2 (.inr HYA.out.symm), fun _ => rfl⟩, by first | exact rfl | trivial⟩
                  case measure => simp [intOf]; omega
                · have f5 : ((y.1 : Int) == (at_ : Int)) = false := by simp; omega
                  have HYA := Lib.hid hya
                  generalize y.1 = yi at *
                  clear hya
                  go_wp2_with fail
                  go_roundw
                  case rel => exact ⟨p + 1, false, by first | rfl | (simp; have := HYA.out; omega), by go_num, f3, ⟨fun h => (by cases h), fun h => ((HST.out _).1 h).elim (fun h => HBB.out.2 h) (fun h => absurd h.symm HYA.out)⟩, by first | exact rfl | trivial⟩
                  case measure => simp [intOf]; omega
            · have hpl : p = gl.length := by omega
              subst hpl
              have f1 : ¬ ((gl.length : Int) < (gl.length : Int)) := by omega
              have hbb := HBB.out
              rw [List.take_length] at hbb
              have HB2 := Lib.hid hbb
              clear hlp hp hbb
              cases bb with
              | true =>
                go_wp2_with fail
                go_roundw
                case rel => exact ⟨q + 1, gl, av, c, rfl, by go_num, d5, HJ.out⟩
                case measure => simp [intOf]; omega
              | false =>
                have c3 : wr.cell? ⟨b, off + q * 2 + 1, none⟩ = some (.int .u8 xb.toNat) := HJ.out.u.cell_some HG3.out (fun h => h)
                go_wp2_with fail
                refine (blk2_any xb wr).mono ?_
                rintro e w4 ⟨rfl, hu⟩
                have HJ4 := Lib.hid (HJ.out.q hu)
                have hbl : (bytesV (blk2 xb)).length = 64 := by rw [bytesV_length, blk2_len]
                obtain ⟨X, hX⟩ : ∃ X, X = blk2 xb := ⟨_, rfl⟩
                rw [← hX] at hbl ⊢
                have HXL := Lib.hid (show X.length = 64 by rw [hX, blk2_len])
                have HBL := Lib.hid hbl
                have HVL := Lib.hid (wcells_len (x := (at_, X)) (by rw [hX, blk2_len]))
                have HV1 := Lib.hid (wcells_one (at_, X))
                have HNI := Lib.hid (show at_ ∉ gl.map (·.1) from fun h => by have := HB2.out.2 h; cases this)
                obtain ⟨i33, hi33, y0, y1, y2⟩ := info_parts info33
                have HZ := Lib.hid (show (Value.agg (Value.int .i64 0 :: List.replicate 64 (Value.int .u8 0)).toArray).cells.size = 65 by simp only [Value.cells, List.size_toArray, List.length_cons, List.length_replicate])
                have HO5 := Lib.hid (ownsRow_upd HJ4.out.o ((Upd.refl (fun _ => False) w4).alloc (.cells (wcells (at_, X)).toArray 33)) (fun _ _ h => h))
                have HSr := Lib.hid (Src.ofSlice (P := Try.prog) (size := 65) (tx := 30) (e' := 33) (w := w4.alloc (.cells (wcells (at_, X)).toArray 33)) Try.underlying30 ⟨w4.heap.size, 0, none⟩ 1 1 (wcells (at_, X)) (by rw [HVL.out]) (World.news_of_block (heap_alloc_new w4 _)) HV1.out)
                have HWS := Lib.hid HJ4.out.u.size
                clear hu hbl hX c3
                go_wp2_with (first
                  | (refine wpList_run rfl (run_value (by rw [List.map_toArray]; exact built33 (at_ : Int) (bytesV X) HBL.out _)) ?_)
                  | (refine wpList_run rfl (run_value (by rw [List.map_toArray]; exact builtSlice33 (wcells (at_, X)) HVL.out _)) ?_)
                  | (at_builtin; refine wpList_append_src_own _ rfl (.tmp 44) (.tmp 53) 30 30 rfl w.heap.size 33 i33 _ 65 72 Try.underlying30 hi33 y0 y1 y2 HZ.out (.slice av gl.length c) gl.length (wsV gl) rfl HO5.out _ 1 (wcells (at_, X)) rfl HSr.out (by unfold maxLen; omega) (by omega) (by have := HWS.out; simp; omega) ?c5))
                case c5 =>
                intro v' w5 p1 p2 p3 p4
                obtain ⟨ao', c', rfl⟩ : ∃ ao' c', v' = .slice ao' (gl.length + 1) c' := by
                  rcases p4 with rfl | ⟨g1, c1, rfl⟩
                  · rcases p1.2 with ⟨_, h⟩ | ⟨_, _, _, h, _⟩
                    · omega
                    · cases h
                  · exact ⟨_, _, rfl⟩
                have hlen : (gl ++ [(at_, X)]).length = gl.length + 1 := by simp
                have hfin : GJ w w5 (.slice ao' (gl ++ [(at_, X)]).length c') (gl ++ [(at_, X)]) := by
                  refine ⟨?_, HJ4.out.g.snoc H24.out ⟨HAT.out.1, HAT.out.2, HXL.out⟩ HNI.out, ?_⟩
                  · rw [hlen, wsV_append]; exact p1
                  · have hup : Upd (fun j => (Value.slice av gl.length c).ownBlock = some j) w4 w5 := ((Upd.refl _ w4).alloc _).grown p2 (fun j h _ => h)
                    exact HJ4.out.u.trans hup (fun j hj h => by
                      rcases HJ4.out.o.2 with ⟨e, _⟩ | ⟨g1, c1, _, e, hb1, _⟩
                      · rw [e] at h; simp [Value.ownBlock] at h
                      · rw [e] at h; simp [Value.ownBlock] at h; omega)
                have HF := Lib.hid hfin
                have HLE := Lib.hid hlen
                clear p1 p2 p3 p4 hfin hlen
                go_wp2_with fail
                go_roundw
                case rel => exact ⟨q + 1, gl ++ [(at_, X)], ao', c', by rw [HLE.out], by go_num, d5, HF.out⟩
                case measure => simp [intOf]; omega
        · have d1 : decide (q < L.length) = true := by simp; omega
          have d2 : decide ((gl.length : Int) < 24) = false := by simp; omega
          clear hlt h24 hq
          go_wp2_with fail
          go_meet
          exact ⟨av, c, gl, rfl, HJ.out⟩
      · have d1 : decide (q < L.length) = false := by simp; omega
        clear hlt hq
        go_wp2_with fail
        go_meet
        exact ⟨av, c, gl, rfl, HJ.out⟩
  case rest =>
  obtain ⟨av, c, gl, rfl, hj⟩ := hcut
  have HJ := Lib.hid hj
  clear hj
  go_wp2
  go_ret
  exact ⟨av, c, gl, rfl, HJ.out⟩
end Go.Proofs.Ytckgcfkahffibaa
