import Derived.Test.YtckgcfkahffibaaLaw24b
namespace Go.Proofs.Ytckgcfkahffibaa
open Go.RowKit
set_option linter.unusedVariables false
set_option linter.unusedSimpArgs false
theorem free_F (k : Nat) (d : DS) (S : Nat → Prop) (w : World) {F : List Value} (h : Dsk w k d S) (hF : F = flatV d.fr) :
    Calls Try.prog 21 #[.pointer (some ⟨k, 0, none⟩)] w fun e w' => e = .returned (.agg F.toArray) ∧ Upd (fun _ => False) w w' := by
  rw [hF]
  refine (free_dsk k d S w h).mono ?_
  rintro e w' ⟨rfl, hu, _⟩
  exact ⟨rfl, hu⟩
set_option maxHeartbeats 4000000 in
set_option maxRecDepth 100000 in
theorem holds_any (v : Value) (LL : List (List (Int × UInt8))) (w : World) (hL : IBs w v LL) : Calls Try.prog 7 #[v] w fun e w' => e = .returned (.bool true) ∧ Upd (fun _ => False) w w' := by
  obtain ⟨ao, cap, rfl, hc⟩ := hL
  have HC := Lib.hid hc
  clear hc
  go_enter Try.func7, Try.ntmps7
  go_wp2_with fail
  refine (new_dsk w).mono ?_
  rintro e w1 ⟨k, S, rfl, hd, hs, hu⟩
  have HD1 := Lib.hid hd
  have HS1 := Lib.hid hs
  have HU1 := Lib.hid hu
  clear hd hs hu
  go_wp2_with fail
  refine (free_dsk k _ S w1 HD1.out).mono ?_
  rintro e w2 ⟨rfl, hu, hb⟩
  have HD2 := Lib.hid (HD1.out.upd0 hu)
  have HU2 := Lib.hid (HU1.out.trans' hu)
  clear hu
  go_wp2_with (refine wpList_var46 (by rfl) (by rfl) 4 (.tmp 14) (by rfl) (by rfl) (by rfl) _ hb (by rfl) (by rfl) ?c1)
  case c1 =>
  intro w3 hu hv
  have HW3 := Lib.hid (show HW w w3 k w2.heap.size 0 S DS.new DS.new.fr from ⟨HD2.out.upd0 hu, ⟨rfl, rfl⟩, rfl, hv, fun _ _ => rfl, HS1.out, ⟨fun h => by have := HD2.out.lt _ h; omega, HU2.out.size⟩, HU2.out.trans' hu, by simp [DS.new]⟩)
  generalize w2.heap.size = g4 at *
  clear hu hv hb
  go_upto_block 0 with fail
  go_cut [5] (fun s wx => ∃ (q : Nat) (S1 : Nat → Prop) (d : DS) (f : Nat → List UInt8), q ≤ 6 ∧ HW w wx k g4 q S1 d f)
  case first =>
    go_wp2_with fail
    go_loopw [5] (fun i wr => ∃ (q : Nat) (S1 : Nat → Prop) (d : DS) (f : Nat → List UInt8), i = .int .i64 q ∧ q ≤ 6 ∧ q ≤ LL.length ∧ HW w wr k g4 q S1 d f) (fun i _ => 6 - (intOf i).toNat)
    case atStart => exact ⟨0, S, _, _, rfl, by omega, Nat.zero_le _, HW3.out⟩
    case round =>
      obtain ⟨q, S1, d, f, rfl, hq6, hqL, hj⟩ := hrel
      have HJ := Lib.hid hj
      clear hj
      by_cases hlt : q < LL.length
      · by_cases h6 : q < 6
        · obtain ⟨b, off, rfl, hcell⟩ : ∃ b off, ao = some ⟨b, off, none⟩ ∧ ∀ i (h : i < LL.length), ∃ u, w.cell? ⟨b, off + i, none⟩ = some u ∧ IB w 2 0 1 u LL[i] ∧ (LL[i]).length ≤ 9223372036854775807 := by
            rcases HC.out with h | h
            · rw [h] at hlt; simp at hlt
            · exact h
          obtain ⟨u, g1, gI, gL⟩ := hcell q hlt
          generalize LL[q] = Lq at *
          have HI := Lib.hid (gI.upd HJ.out.u)
          have HIL := Lib.hid gL
          have c1 := HJ.out.u.cell_some g1 (fun h => h)
          obtain ⟨ao1, cap1, rfl, _⟩ := gI
          have d1 : decide (q < LL.length) = true := by simp; omega
          have d2 : decide ((q : Int) < 6) = true := by simp; omega
          have d3 : (q : Int) < (LL.length : Int) := by omega
          have d5 : q + 1 ≤ LL.length := by omega
          have d6 : q + 1 ≤ 6 := by omega
          clear hcell g1 gL hlt hqL h6 hq6
          go_wp2_with fail
          refine (group_any _ _ wr HI.out HIL.out).mono ?_
          rintro e w4 ⟨ao2, c2, gl, rfl, hj⟩
          have HG := Lib.hid hj.g
          have HO := Lib.hid hj.o
          have HJ4 := Lib.hid (HJ.out.q' hj.u)
          have hgl : gl.length ≤ 24 := hj.g.len
          clear hj c1
          go_wp2_with fail
          have HOB := Lib.hid (show ∀ j, (Value.slice ao2 gl.length c2).ownBlock = some j → ¬ S1 j ∧ j < w4.heap.size ∧ j ≠ g4 from fun j hj => by
            have hb : wr.heap.size ≤ j := by
              rcases HO.out.2 with ⟨e, _⟩ | ⟨g', _, _, e, hb, _⟩
              · rw [e] at hj; simp [Value.ownBlock] at hj
              · rw [e] at hj; simp [Value.ownBlock] at hj; omega
            exact ⟨fun h => by have := HJ.out.dd.lt j h; omega, own_lt HO.out hj, fun e => by have := HJ.out.v.lt; omega⟩)
          have HAP := Lib.hid (app_quiet HJ4.out.q HJ4.out.i HG.out)
          refine (apply_dsk k d S1 w4 HJ4.out.dd (by have := HJ4.out.n; omega) _ gl (WlR.own HO.out (fun x hx => (HG.out.at_ x hx).2)) (fun j hj => ⟨(HOB.out j hj).1, (HOB.out j hj).2.1⟩) HG.out).mono ?_
          rw [HAP.out]
          rintro e w5 ⟨rfl, S5, hd, hA, hs⟩
          have HD5 := Lib.hid (show Dsk w5 k (d.with gl) S5 from hd)
          have HS5 := Lib.hid (show ∀ j, S5 j → w.heap.size ≤ j from fun j hj => (hs j hj).elim (HJ4.out.s j) (fun h => Nat.le_trans HJ4.out.u.size h))
          have HG5 := Lib.hid (show ¬ S5 g4 from fun h => (hs g4 h).elim HJ4.out.g.1 (fun h => by have := HJ4.out.v.lt; omega))
          have HU5 := Lib.hid (HJ4.out.u.trans hA (fun j hj h => by have := HJ4.out.s j h; omega))
          have HV5 := Lib.hid (HJ4.out.v.upd hA HJ4.out.g.1)
          have HO5 := Lib.hid (ownsRow_upd HO.out hA (fun j hj => (HOB.out j hj).1))
          have HN5 := Lib.hid (show (d.with gl).ws.length ≤ 100 * (q + 1) by
            show (d.ws ++ fullW gl).length ≤ _
            rw [List.length_append]
            have := fullW_len gl hgl
            have := HJ4.out.n
            omega)
          clear hd hA hs
          obtain ⟨wo, rfl⟩ : ∃ wo : World, wo = wr := ⟨_, rfl⟩
          go_wp2_with fail
          go_loopw [7] (fun i wr => ∃ p : Nat, i = .int .i64 p ∧ p ≤ gl.length ∧ Var46 wr g4 (laid f (gl.take p)) ∧ Upd (fun j => j = g4) w5 wr) (fun i _ => gl.length - (intOf i).toNat)
          case atStart => exact ⟨0, rfl, Nat.zero_le _, HV5.out, Upd.refl _ _⟩
          case round =>
            obtain ⟨p, rfl, hp, hv, hu⟩ := hrel
            have HV := Lib.hid hv
            have HUr := Lib.hid hu
            clear hv hu
            by_cases hlp : p < gl.length
            · obtain ⟨g, rfl⟩ : ∃ g, ao2 = some ⟨g, 0, none⟩ := by
                rcases HO.out.2 with ⟨_, h⟩ | ⟨g, _, _, h, _⟩
                · omega
                · simp only [Value.slice.injEq] at h
                  exact ⟨g, h.1⟩
              have hcl : gl.length ≤ c2 := by
                rcases HO.out.2 with ⟨h, _⟩ | ⟨g', c', _, h, _, _, hc, _⟩
                · simp only [Value.slice.injEq, reduceCtorEq, false_and] at h
                · simp only [Value.slice.injEq, Option.some.injEq, Addr.mk.injEq, and_true, true_and] at h
                  omega
              have hgg : g ≠ g4 := (HOB.out g rfl).2.2
              have hra := range_upd (ws_at (ownsRow_base HO5.out (fun _ _ => Nat.zero_le _)) (fun x hx => (HG.out.at_ x hx).2) p hlp) HUr.out hgg
              have hxg := HG.out.at_ _ (List.getElem_mem hlp)
              have hx? : gl[p]? = some gl[p] := List.getElem?_eq_getElem hlp
              generalize gl[p] = x at *
              obtain ⟨xi, xb⟩ := x
              have HXG := Lib.hid (show 25 ≤ xi ∧ xi < 255 ∧ xb.length = 64 from hxg)
              have HLS := Lib.hid (laid_step (f := f) hx?)
              have ca : wr.cell? ⟨g, p * 65, none⟩ = some (.int .i64 (xi : Int)) := hra 0 _ rfl
              have hrb : wr.rangeAt g (p * 65 + 1) (bytesV xb) := fun j v hv => by
                have := hra (j + 1) v (by simpa [wcells] using hv)
                rwa [show p * 65 + (j + 1) = p * 65 + 1 + j by omega] at this
              have hth := HV.out.1.there xi HXG.out.2.1
              obtain ⟨B, hB⟩ : ∃ B, B = bytesV xb := ⟨_, rfl⟩
              have hbl : B.length = 64 := by rw [hB, bytesV_length]; exact HXG.out.2.2
              have hb1 : ∀ u ∈ B, u.oneCell' = true := by rw [hB]; exact bytesV_one _
              rw [← hB] at hrb
              have HB := Lib.hid hB
              have hsz : (Try.prog.info? 28).map (·.size) = some B.length := by rw [hbl]; exact size28
              have hu28 := Try.underlying28
              have f1 : (p : Int) < (gl.length : Int) := by omega
              have f0 : (0 : Int) ≤ (p : Int) := by omega
              have f3 : p + 1 ≤ gl.length := by omega
              have f4 : (0 : Int) ≤ (xi : Int) := by omega
              have f5 : (xi : Int) < 255 := by have := HXG.out.2.1; omega
              have hgg4 : g4 ≠ g := fun e => hgg e.symm
              have HKeep : Hid (∀ wx : World, (wx.cell? ⟨g, p * 65, none⟩ = some (.int .i64 (xi : Int)) ∧ wx.rangeAt g (p * 65 + 1) B ∧ wx.there g4 (xi * 64) 64) → ((wx.setCells g4 (xi * 64) B).cell? ⟨g, p * 65, none⟩ = some (.int .i64 (xi : Int)) ∧ (wx.setCells g4 (xi * 64) B).rangeAt g (p * 65 + 1) B ∧ (wx.setCells g4 (xi * 64) B).there g4 (xi * 64) 64)) := by
                intro wx ⟨h1, h2, h3⟩
                refine ⟨?_, World.rangeAt_setCells_apart h2 _ _ _ (.inl hgg), World.there_setCells h3 _ _ _⟩
                rw [World.cell?_setCells_out g4 B _ wx ⟨g, p * 65, none⟩ (fun h => absurd h hgg)]
                exact h1
              clear hra hxg hx? hB hlp hp hcl
              go_wp2_with fail
              go_region_held3 (fun wx => wx.cell? ⟨g, p * 65, none⟩ = some (.int .i64 (xi : Int)) ∧ wx.rangeAt g (p * 65 + 1) B ∧ wx.there g4 (xi * 64) 64) (first | exact HKeep.out _ (by assumption) | go_keep_ranges) (fail)
              rename_i hHeld
              have hfv : Var46 (wr.drew.setCells g4 (xi * 64) B) g4 (laid f (gl.take (p + 1))) := by
                rw [HLS.out, HB.out]
                exact (HV.out.upd ((Upd.refl (fun _ => False) wr).drew) (fun h => h)).put xi HXG.out.2.1 xb HXG.out.2.2
              have hfu : Upd (fun j => j = g4) w5 (wr.drew.setCells g4 (xi * 64) B) := upd_setCells HUr.out.drew _ _ _ (fun _ => rfl)
              have HFV := Lib.hid hfv
              have HFU := Lib.hid hfu
              generalize wr.drew.setCells g4 (xi * 64) B = w6 at *
              clear hHeld hfv hfu HKeep ca hrb hth hsz hu28 f4 f5
              go_wp2_with fail
              go_roundw
              case rel => exact ⟨p + 1, by go_num, f3, HFV.out, HFU.out⟩
              case measure => simp [intOf]; omega
            have hpl : p = gl.length := by omega
            subst hpl
            have hv := HV.out
            rw [List.take_length] at hv
            have HV8 := Lib.hid hv
            have HD8 := Lib.hid (HD5.out.upd HUr.out (fun j hj e => HG5.out (by rw [← e]; exact hj)))
            have HU8 := Lib.hid (HU5.out.trans HUr.out (fun j hj e => by have := HJ4.out.g.2; omega))
            have HW8 := Lib.hid (show HW w wr k g4 (q + 1) S5 (d.with gl) (laid f gl) from ⟨HD8.out, with_quiet HJ4.out.q, fullW_idle HJ4.out.i, HV8.out, fun j hj => with_fr HJ4.out.q HG.out HJ4.out.e j hj, HS5.out, ⟨HG5.out, HJ4.out.g.2⟩, HU8.out, HN5.out⟩)
            have f1 : ¬ ((gl.length : Int) < (gl.length : Int)) := by omega
            have HFE := Lib.hid (show flatV (laid f gl) = flatV (d.with gl).fr from flatV_congr (fun j hj => HW8.out.e j hj))
            have HRG := Lib.hid HV8.out.range
            have hq : ∀ w, (binOp .neq 46 (.agg (flatV (laid f gl)).toArray) (.agg (flatV (laid f gl)).toArray)).run Try.prog w = .ok (.bool false) w := fun w => neq46 HV8.out.2 rfl w
            have hfl := flatV_len HV8.out.2
            generalize flatV (laid f gl) = F at *
            have qF := hq
            have HSZ := Lib.hid (show (Try.prog.info? 46).map (·.size) = some F.length by rw [hfl]; exact size46)
            clear hv hlp hp hq hfl
            go_wp2_with fail
            refine wp_region_noPanic ?_
            have hS0 : Upd (fun _ => False) wr wr.drew := (Upd.refl _ wr).drew
            refine wp_region_held (S := fun wx => Upd (fun _ => False) wr wx) (by kernel_rfl) ?_
            refine wpAnyH_take (i := 0) (v := .pointer (some ⟨k, 0, none⟩)) (List.getElem?_toArray.trans rfl) (by kernel_rfl) (by kernel_rfl) (by kernel_rfl) (fun _ _ _ h => h) (Or.inl ⟨by rfl, fun w _ => by rfl⟩) hS0 ?_
            simp only [Act.put, List.setIfInBounds_toArray, List.set_cons_zero, List.set_cons_succ]
            refine wpAnyH_take (i := 2) (v := .agg F.toArray) (List.getElem?_toArray.trans rfl) (by kernel_rfl) (by kernel_rfl) (by kernel_rfl) (fun _ _ _ h => h) (yieldsIf_load_mid (by rfl) 46 _ rfl g4 0 rfl F _ (fun w h => range_upd HRG.out h (fun h => h)) Try.underlying46 rfl HSZ.out) hS0 ?_
            simp only [Act.put, List.setIfInBounds_toArray, List.set_cons_zero, List.set_cons_succ]
            refine wpAnyH_ready (rs := [1]) (by kernel_rfl) (by simp) (AllReadyH.cons (List.getElem?_toArray.trans rfl) (fun K hK => ?_) AllReadyH.nil)
            go_simp
            refine (free_F _ _ _ _ (HD8.out.upd0 hS0) HFE.out).mono ?_
            rintro e w' ⟨rfl, hA⟩
            have hS1 := hS0.trans' hA
            refine hK.out _ _ hS1 (fun _ => ?_)
            try simp only [Act.put, List.setIfInBounds_toArray, List.set_cons_zero, List.set_cons_succ]
            refine wpAnyH_take (i := 3) (v := .bool false) (List.getElem?_toArray.trans rfl) (by kernel_rfl) (by kernel_rfl) (by kernel_rfl) (fun _ _ _ h => h) (Or.inl ⟨by rfl, fun w _ => run_value (qF w)⟩) hS1 ?_
            simp only [Act.put, List.setIfInBounds_toArray, List.set_cons_zero, List.set_cons_succ]
            refine wpAnyH_done (by kernel_rfl) ?_ _
            refine NoPanic.normal ?_
            have HW9 := Lib.hid (HW8.out.q' hS1)
            go_wp2_with fail
            go_roundw
            case rel => exact ⟨q + 1, S5, _, _, by go_num, d6, d5, HW9.out⟩
            case measure => simp [intOf]; omega
        · have d1 : decide (q < LL.length) = true := by simp; omega
          have d2 : decide ((q : Int) < 6) = false := by simp; omega
          clear hlt h6 hqL
          go_wp2_with fail
          go_meet
          exact ⟨q, S1, d, f, hq6, HJ.out⟩
      · have d1 : decide (q < LL.length) = false := by simp; omega
        clear hlt hqL
        go_wp2_with fail
        go_meet
        exact ⟨q, S1, d, f, hq6, HJ.out⟩
  case rest =>
  obtain ⟨q, S1, d, f, hq6, hj⟩ := hcut
  have HJ := Lib.hid hj
  have HR := Lib.hid (recv_idle hj.q.1 hj.i)
  clear hj
  go_wp2_with fail
  refine (recover_dsk k d S1 wc HJ.out.dd (by have := HJ.out.n; omega)).mono ?_
  rw [HR.out]
  rintro e w5 ⟨rfl, S5, hd, hA, hs⟩
  have HD5 := Lib.hid hd
  have HU5 := Lib.hid (HJ.out.u.trans hA (fun j hj h => by have := HJ.out.s j h; omega))
  have HV5 := Lib.hid (HJ.out.v.upd hA HJ.out.g.1)
  clear hd hA hs
  have HFE := Lib.hid (show flatV f = flatV d.fr from flatV_congr (fun j hj => HJ.out.e j hj))
  have HRG := Lib.hid HV5.out.range
  have hq : ∀ w, (binOp .eql 46 (.agg (flatV f).toArray) (.agg (flatV f).toArray)).run Try.prog w = .ok (.bool true) w := fun w => eql46 HV5.out.2 rfl w
  have hfl := flatV_len HV5.out.2
  generalize flatV f = F at *
  have qF := hq
  have HSZ := Lib.hid (show (Try.prog.info? 46).map (·.size) = some F.length by rw [hfl]; exact size46)
  clear hq hfl
  go_wp2_with fail
  refine wp_region_noPanic ?_
  have hS0 : Upd (fun _ => False) w5 w5.drew := (Upd.refl _ w5).drew
  refine wp_region_held (S := fun wx => Upd (fun _ => False) w5 wx) (by kernel_rfl) ?_
  refine wpAnyH_take (i := 0) (v := .int .i64 0) (List.getElem?_toArray.trans rfl) (by kernel_rfl) (by kernel_rfl) (by kernel_rfl) (fun _ _ _ h => h) (Or.inl ⟨by rfl, fun w _ => by rfl⟩) hS0 ?_
  simp only [Act.put, List.setIfInBounds_toArray, List.set_cons_zero, List.set_cons_succ]
  refine wpAnyH_take (i := 1) (v := .bool true) (List.getElem?_toArray.trans rfl) (by kernel_rfl) (by kernel_rfl) (by kernel_rfl) (fun _ _ _ h => h) (Or.inl ⟨by rfl, fun w _ => by go_simp⟩) hS0 ?_
  simp only [Act.put, List.setIfInBounds_toArray, List.set_cons_zero, List.set_cons_succ]
  refine wpAnyH_take (i := 2) (v := .bool true) (List.getElem?_toArray.trans rfl) (by kernel_rfl) (by kernel_rfl) (by kernel_rfl) (fun _ _ _ h => h) (Or.inl ⟨by rfl, fun w _ => by rfl⟩) hS0 ?_
  simp only [Act.put, List.setIfInBounds_toArray, List.set_cons_zero, List.set_cons_succ]
  refine wpAnyH_take (i := 3) (v := .int .i64 0) (List.getElem?_toArray.trans rfl) (by kernel_rfl) (by kernel_rfl) (by kernel_rfl) (fun _ _ _ h => h) (Or.inl ⟨by rfl, fun w _ => by rfl⟩) hS0 ?_
  simp only [Act.put, List.setIfInBounds_toArray, List.set_cons_zero, List.set_cons_succ]
  refine wpAnyH_take (i := 4) (v := .bool true) (List.getElem?_toArray.trans rfl) (by kernel_rfl) (by kernel_rfl) (by kernel_rfl) (fun _ _ _ h => h) (Or.inl ⟨by rfl, fun w _ => by go_simp⟩) hS0 ?_
  simp only [Act.put, List.setIfInBounds_toArray, List.set_cons_zero, List.set_cons_succ]
  refine wpAnyH_take (i := 5) (v := .bool true) (List.getElem?_toArray.trans rfl) (by kernel_rfl) (by kernel_rfl) (by kernel_rfl) (fun _ _ _ h => h) (Or.inl ⟨by rfl, fun w _ => by go_simp⟩) hS0 ?_
  simp only [Act.put, List.setIfInBounds_toArray, List.set_cons_zero, List.set_cons_succ]
  refine wpAnyH_take (i := 6) (v := .bool true) (List.getElem?_toArray.trans rfl) (by kernel_rfl) (by kernel_rfl) (by kernel_rfl) (fun _ _ _ h => h) (Or.inl ⟨by rfl, fun w _ => by rfl⟩) hS0 ?_
  simp only [Act.put, List.setIfInBounds_toArray, List.set_cons_zero, List.set_cons_succ]
  refine wpAnyH_take (i := 7) (v := .pointer (some ⟨k, 0, none⟩)) (List.getElem?_toArray.trans rfl) (by kernel_rfl) (by kernel_rfl) (by kernel_rfl) (fun _ _ _ h => h) (Or.inl ⟨by rfl, fun w _ => by rfl⟩) hS0 ?_
  simp only [Act.put, List.setIfInBounds_toArray, List.set_cons_zero, List.set_cons_succ]
  refine wpAnyH_take (i := 9) (v := .agg F.toArray) (List.getElem?_toArray.trans rfl) (by kernel_rfl) (by kernel_rfl) (by kernel_rfl) (fun _ _ _ h => h) (yieldsIf_load_mid (by rfl) 46 _ rfl g4 0 rfl F _ (fun w h => range_upd HRG.out h (fun h => h)) Try.underlying46 rfl HSZ.out) hS0 ?_
  simp only [Act.put, List.setIfInBounds_toArray, List.set_cons_zero, List.set_cons_succ]
  refine wpAnyH_ready (rs := [8]) (by kernel_rfl) (by simp) (AllReadyH.cons (List.getElem?_toArray.trans rfl) (fun K hK => ?_) AllReadyH.nil)
  go_simp
  refine (free_F _ _ _ _ (HD5.out.upd0 hS0) HFE.out).mono ?_
  rintro e w' ⟨rfl, hA⟩
  have hS1 := hS0.trans' hA
  refine hK.out _ _ hS1 (fun _ => ?_)
  try simp only [Act.put, List.setIfInBounds_toArray, List.set_cons_zero, List.set_cons_succ]
  refine wpAnyH_take (i := 10) (v := .bool true) (List.getElem?_toArray.trans rfl) (by kernel_rfl) (by kernel_rfl) (by kernel_rfl) (fun _ _ _ h => h) (Or.inl ⟨by rfl, fun w _ => run_value (qF w)⟩) hS1 ?_
  simp only [Act.put, List.setIfInBounds_toArray, List.set_cons_zero, List.set_cons_succ]
  refine wpAnyH_take (i := 11) (v := .bool true) (List.getElem?_toArray.trans rfl) (by kernel_rfl) (by kernel_rfl) (by kernel_rfl) (fun _ _ _ h => h) (Or.inl ⟨by rfl, fun w _ => by go_simp⟩) hS1 ?_
  simp only [Act.put, List.setIfInBounds_toArray, List.set_cons_zero, List.set_cons_succ]
  refine wpAnyH_take (i := 12) (v := .bool true) (List.getElem?_toArray.trans rfl) (by kernel_rfl) (by kernel_rfl) (by kernel_rfl) (fun _ _ _ h => h) (Or.inl ⟨by rfl, fun w _ => by rfl⟩) hS1 ?_
  simp only [Act.put, List.setIfInBounds_toArray, List.set_cons_zero, List.set_cons_succ]
  refine wpAnyH_ready (rs := [13]) (by kernel_rfl) (by simp) (AllReadyH.cons (List.getElem?_toArray.trans rfl) (fun K hK => ?_) AllReadyH.nil)
  go_simp
  refine (known24_any _).mono ?_
  rintro e w' ⟨rfl, hA⟩
  have hS2 := hS1.trans' hA
  refine hK.out _ _ hS2 (fun _ => ?_)
  try simp only [Act.put, List.setIfInBounds_toArray, List.set_cons_zero, List.set_cons_succ]
  refine wpAnyH_take (i := 14) (v := .bool true) (List.getElem?_toArray.trans rfl) (by kernel_rfl) (by kernel_rfl) (by kernel_rfl) (fun _ _ _ h => h) (Or.inl ⟨by rfl, fun w _ => by go_simp⟩) hS2 ?_
  simp only [Act.put, List.setIfInBounds_toArray, List.set_cons_zero, List.set_cons_succ]
  refine wpAnyH_take (i := 15) (v := .bool true) (List.getElem?_toArray.trans rfl) (by kernel_rfl) (by kernel_rfl) (by kernel_rfl) (fun _ _ _ h => h) (Or.inl ⟨by rfl, fun w _ => by rfl⟩) hS2 ?_
  simp only [Act.put, List.setIfInBounds_toArray, List.set_cons_zero, List.set_cons_succ]
  refine wpAnyH_done (by kernel_rfl) ?_ _
  refine NoPanic.normal ?_
  have HF := Lib.hid (HU5.out.trans' hS2)
  go_wp2
  go_ret
  exact ⟨rfl, HF.out⟩
end Go.Proofs.Ytckgcfkahffibaa
