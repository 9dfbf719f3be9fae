import Derived.Test.YtckgcfkahffibaaBag2
import Derived.Test.YtckgcfkahffibaaCuts
import Derived.Test.YtckgcfkahffibaaInts
namespace Go.Proofs.Ytckgcfkahffibaa
open Go.RowKit
set_option linter.unusedVariables false
set_option linter.unusedSimpArgs false
set_option maxHeartbeats 8000000 in
set_option maxRecDepth 100000 in
theorem cuts24_any (v0 v1 v3 v4 : Value) (n0 : Int) (L0 L1 L4 : List (Int × UInt8)) (L3 : List Int) (w : World) (hI0 : IB w 2 0 1 v0 L0) (hm0 : L0.length ≤ 9223372036854775807) (hI1 : IB w 2 0 1 v1 L1) (hm1 : L1.length ≤ 9223372036854775807) (h1 : -9223372036854775808 ≤ n0) (h2 : n0 ≤ 9223372036854775807) (hI3 : IS w v3 L3) (hI4 : IB w 2 0 1 v4 L4) (hm4 : L4.length ≤ 9223372036854775807) :
    Calls Try.prog 8 #[v0, v1, .int .i64 n0, v3, v4] w fun e w' => e = .returned (.bool true) ∧ Upd (fun _ => False) w w' := by
  have HI0 := Lib.hid hI0
  have HI1 := Lib.hid hI1
  have HI4 := Lib.hid hI4
  have HM0 := Lib.hid hm0
  have HM1 := Lib.hid hm1
  have HM4 := Lib.hid hm4
  have HN0 := Lib.hid (And.intro h1 h2)
  obtain ⟨ao3, c3, rfl, hc3⟩ := hI3
  have HC3 := Lib.hid hc3
  clear hI0 hI1 hm0 hm1 h1 h2 hI4 hm4 hc3
  go_enter Try.func8, Try.ntmps8
  go_wp2_with fail
  refine (new_dsk w).mono ?_
  rintro e w1 ⟨k, S, rfl, hd, hs, hu⟩
  have HB := Lib.hid (Bag.new hd hs hu)
  clear hd hs hu
  go_wp2_with fail
  refine (bag_group HB.out HI0.out HM0.out).mono ?_
  rintro e w2 ⟨ao0, c0, l0, rfl, hg, hb⟩
  have HG0 := Lib.hid hg
  have HB := Lib.hid hb
  clear hg hb
  go_wp2_with fail
  refine (bag_apply (V := .slice ao0 l0.length c0) (l := l0) HB.out ⟨rfl, rfl⟩ rfl (by simp [DS.new]) HG0.out (by simp)).mono ?_
  rintro e w3 ⟨rfl, S3, hb, _⟩
  have HB := Lib.hid hb
  clear hb
  obtain ⟨d0, hd0⟩ : ∃ d0, d0 = DS.new.with l0 := ⟨_, rfl⟩
  have HQ0 := Lib.hid (show Quiet d0 by rw [hd0]; exact ⟨rfl, rfl⟩)
  have HID0 := Lib.hid (show idle d0.bl by rw [hd0]; exact with_idle (d := DS.new) rfl)
  rw [← hd0] at HB
  clear hd0
  go_wp2_with fail
  refine (bag_free HB.out).mono ?_
  rintro e w5 ⟨rfl, hb, h64⟩
  have HB := Lib.hid hb
  clear hb
  go_wp2_with (refine wpList_var46 (by rfl) (by rfl) 12 (.tmp 38) (by rfl) (by rfl) (by rfl) _ h64 (by rfl) (by rfl) ?c1)
  case c1 =>
  intro w6 hu hv
  have HB := Lib.hid (HB.out.newv hu hv)
  have HV1 := Lib.hid h64
  clear hu hv
  generalize w5.heap.size = g1 at *
  obtain ⟨F1, hF1⟩ : ∃ F1, F1 = flatV d0.fr := ⟨_, rfl⟩
  have HSZ1 := Lib.hid (show (Try.prog.info? 46).map (·.size) = some F1.length by rw [hF1, flatV_len h64]; exact size46)
  have HF1 := Lib.hid hF1
  clear hF1 h64
  go_wp2_with fail
  refine (bag_group HB.out HI1.out HM1.out).mono ?_
  rintro e w7 ⟨ao1, c1, l1, rfl, hg, hb⟩
  have HG1 := Lib.hid hg
  have HB := Lib.hid hb
  clear hg hb
  have HR1 := Lib.hid (HB.out.v (g1, d0.fr) (by simp)).range
  rw [← HF1.out] at HR1
  go_wp2_with (first | (refine wpList_load_midG (by rfl) 46 (.tmp 12) rfl g1 0 (by rfl) F1 _ HR1.out Try.underlying46 rfl HSZ1.out ?_) | (refine wpList_var46 (by rfl) (by rfl) 14 (.tmp 41) (by rfl) (by rfl) (by rfl) d0.fr HV1.out (by rfl) (by rw [← HF1.out]; rfl) ?c2))
  case c2 =>
  intro w8 hu hv
  have HB := Lib.hid (HB.out.newv hu hv)
  clear hu hv
  generalize w7.heap.size = g2 at *
  go_wp2_with fail
  go_loopw [15] (fun i wr => ∃ p : Nat, i = .int .i64 p ∧ p ≤ l1.length ∧ Var46 wr g2 (laid d0.fr (l1.take p)) ∧ Upd (fun j => j = g2) w8 wr) (fun i _ => l1.length - (intOf i).toNat)
  case atStart => exact ⟨0, rfl, Nat.zero_le _, HB.out.v (g2, d0.fr) (by simp), Upd.refl _ _⟩
  case round =>
    obtain ⟨p, rfl, hp, hv, hu⟩ := hrel
    have HV := Lib.hid hv
    have HUr := Lib.hid hu
    have HO5 := Lib.hid (HB.out.o (.slice ao1 l1.length c1, l1) (by simp))
    have HOB := Lib.hid (HB.out.ov (.slice ao1 l1.length c1, l1) (by simp) (g2, d0.fr) (by simp))
    clear hv hu
    by_cases hlp : p < l1.length
    · obtain ⟨g, rfl⟩ : ∃ g, ao1 = some ⟨g, 0, none⟩ := by
        rcases HO5.out.2 with ⟨_, h⟩ | ⟨g, _, _, h, _⟩
        · simp only at h; omega
        · simp only [Value.slice.injEq] at h
          exact ⟨g, h.1⟩
      have hcl : l1.length ≤ c1 := by
        rcases HO5.out.2 with ⟨h, _⟩ | ⟨g', c', _, h, _, _, hc, _⟩
        · simp only [Value.slice.injEq, reduceCtorEq, false_and] at h
        · simp only [Value.slice.injEq, Option.some.injEq, Addr.mk.injEq, and_true, true_and] at h
          simp only at hc
          omega
      have hgg : g ≠ g2 := fun e => HOB.out (by simp [Value.ownBlock, e])
      have hra := range_upd (ws_at (ownsRow_base HO5.out (fun _ _ => Nat.zero_le _)) (fun x hx => (HG1.out.at_ x hx).2) p hlp) HUr.out hgg
      have hxg := HG1.out.at_ _ (List.getElem_mem hlp)
      have hx? : l1[p]? = some l1[p] := List.getElem?_eq_getElem hlp
      try simp only at hra
      generalize l1[p] = x at *
      obtain ⟨xi, xb⟩ := x
      have HXG := Lib.hid (show 25 ≤ xi ∧ xi < 255 ∧ xb.length = 64 from hxg)
      have HLS := Lib.hid (laid_step (f := d0.fr) hx?)
      have ca : wr.cell? ⟨g, p * 65, none⟩ = some (.int .i64 (xi : Int)) := hra 0 _ rfl
      have hrb : wr.rangeAt g (p * 65 + 1) (bytesV xb) := fun j v hv => by
        have := hra (j + 1) v (by simpa [wcells] using hv)
        rwa [show p * 65 + (j + 1) = p * 65 + 1 + j by omega] at this
      have hth := HV.out.1.there xi HXG.out.2.1
      obtain ⟨B, hB⟩ : ∃ B, B = bytesV xb := ⟨_, rfl⟩
      have hbl : B.length = 64 := by rw [hB, bytesV_length]; exact HXG.out.2.2
      have hb1 : ∀ u ∈ B, u.oneCell' = true := by rw [hB]; exact bytesV_one _
      rw [← hB] at hrb
      have HBY := Lib.hid hB
      have hsz : (Try.prog.info? 28).map (·.size) = some B.length := by rw [hbl]; exact size28
      have hu28 := Try.underlying28
      have f1 : (p : Int) < (l1.length : Int) := by omega
      have f0 : (0 : Int) ≤ (p : Int) := by omega
      have f3 : p + 1 ≤ l1.length := by omega
      have f4 : (0 : Int) ≤ (xi : Int) := by omega
      have f5 : (xi : Int) < 255 := by have := HXG.out.2.1; omega
      have f6 : l1.length ≤ 24 := HG1.out.len
      have hgg4 : g2 ≠ g := fun e => hgg e.symm
      have HKeep : Hid (∀ wx : World, (wx.cell? ⟨g, p * 65, none⟩ = some (.int .i64 (xi : Int)) ∧ wx.rangeAt g (p * 65 + 1) B ∧ wx.there g2 (xi * 64) 64) → ((wx.setCells g2 (xi * 64) B).cell? ⟨g, p * 65, none⟩ = some (.int .i64 (xi : Int)) ∧ (wx.setCells g2 (xi * 64) B).rangeAt g (p * 65 + 1) B ∧ (wx.setCells g2 (xi * 64) B).there g2 (xi * 64) 64)) := by
        intro wx ⟨h1, h2, h3⟩
        refine ⟨?_, World.rangeAt_setCells_apart h2 _ _ _ (.inl hgg), World.there_setCells h3 _ _ _⟩
        rw [World.cell?_setCells_out g2 B _ wx ⟨g, p * 65, none⟩ (fun h => absurd h hgg)]
        exact h1
      clear hra hxg hx? hB hlp hp hcl
      go_wp2_with fail
      go_region_held3 (fun wx => wx.cell? ⟨g, p * 65, none⟩ = some (.int .i64 (xi : Int)) ∧ wx.rangeAt g (p * 65 + 1) B ∧ wx.there g2 (xi * 64) 64) (first | exact HKeep.out _ (by assumption) | go_keep_ranges) (fail)
      rename_i hHeld
      have hfv : Var46 (wr.drew.setCells g2 (xi * 64) B) g2 (laid d0.fr (l1.take (p + 1))) := by
        rw [HLS.out, HBY.out]
        exact (HV.out.upd ((Upd.refl (fun _ => False) wr).drew) (fun h => h)).put xi HXG.out.2.1 xb HXG.out.2.2
      have hfu : Upd (fun j => j = g2) w8 (wr.drew.setCells g2 (xi * 64) B) := upd_setCells HUr.out.drew _ _ _ (fun _ => rfl)
      have HFV := Lib.hid hfv
      have HFU := Lib.hid hfu
      generalize wr.drew.setCells g2 (xi * 64) B = wq at *
      clear hHeld hfv hfu HKeep ca hrb hth hsz hu28 f4 f5
      go_wp2_with fail
      go_roundw
      case rel => exact ⟨p + 1, by go_num, f3, HFV.out, HFU.out⟩
      case measure => simp [intOf]; omega
    have hpl : p = l1.length := by omega
    subst hpl
    have hv := HV.out
    rw [List.take_length] at hv
    have HB := Lib.hid (HB.out.put HUr.out hv)
    have f1 : ¬ ((l1.length : Int) < (l1.length : Int)) := by omega
    clear hv hlp hp HV HUr HO5 HOB
    obtain ⟨wo, rfl⟩ : ∃ wo : World, wo = wr := ⟨_, rfl⟩
    go_wp2_with fail
    refine (bag_mark HB.out).mono ?_
    rintro e w9 ⟨rfl, S9, hb⟩
    have HB := Lib.hid hb
    clear hb
    go_wp2_with fail
    refine (bag_apply (V := .slice ao1 l1.length c1) (l := l1) HB.out ⟨HQ0.out.1, HQ0.out.2⟩ HID0.out (by simp [DS.mark]) HG1.out (by simp)).mono ?_
    rintro e w10 ⟨rfl, S10, hb, _⟩
    have HB := Lib.hid hb
    clear hb
    obtain ⟨N, hN⟩ : ∃ N, N = (fullW l1).length := ⟨_, rfl⟩
    have HN50 := Lib.hid (show N ≤ 50 by rw [hN]; exact fullW_len l1 HG1.out.len)
    obtain ⟨d1, hd1⟩ : ∃ d1, d1 = d0.mark.with l1 := ⟨_, rfl⟩
    have HCUT := Lib.hid (show ∀ q, d1.cut q = DS.of (laid d0.bl ((fullW l1).take q)) by intro q; rw [hd1]; simp [DS.cut, DS.with, DS.mark])
    have HWL := Lib.hid (show d1.ws.length = N by rw [hd1, hN]; simp [DS.with, DS.mark])
    rw [← hd1] at HB
    have HN := Lib.hid hN
    clear hd1 hN
    have HF2v := Lib.hid (HB.out.v (g2, laid d0.fr l1) (by simp)).2
    obtain ⟨F2, hF2⟩ : ∃ F2, F2 = flatV (laid d0.fr l1) := ⟨_, rfl⟩
    have HSZ2 := Lib.hid (show (Try.prog.info? 46).map (·.size) = some F2.length by rw [hF2, flatV_len HF2v.out]; exact size46)
    have HF2 := Lib.hid hF2
    clear hF2
    go_wp2_with fail
    refine (bag_writes (n := N) HB.out HWL.out (by have := HN50.out; omega)).mono ?_
    rintro e w11 ⟨⟨ao2, c2, rfl⟩, hb⟩
    have HB := Lib.hid hb
    clear hb
    go_wp2_with fail
    refine (within_any n0 N HN0.out.1 HN0.out.2 (by omega) (by have := HN50.out; omega) w11).mono ?_
    rintro e w12 ⟨⟨r, hr, rfl⟩, rfl⟩
    have HR := Lib.hid (show r ≤ N by omega)
    clear hr
    go_wp2_with fail
    refine (bag_cut (n := r) HB.out (by have := HN50.out; have := HWL.out; omega) (by have := HN50.out; have := HR.out; omega)).mono ?_
    rintro e w13 ⟨k', S', rfl, hb⟩
    have HB := Lib.hid hb
    clear hb
    obtain ⟨d3, h3⟩ : ∃ d3, d3 = d1.cut r := ⟨_, rfl⟩
    have HQ3 := Lib.hid (show Quiet d3 by rw [h3, HCUT.out]; exact of_quiet _)
    have HS3 := Lib.hid (show StS (r = 0) (r = N) d0.bl l1 d3.bl by rw [h3, HCUT.out, HN.out]; exact full_st HID0.out HG1.out r)
    have HW3 := Lib.hid (show d3.ws.length ≤ 256 by rw [h3, HCUT.out]; simp [DS.of])
    rw [← h3] at HB
    clear h3
    go_upto_block 2 with fail
    go_cut [18] (fun s wx => ∃ (k' : Nat) (S' : Nat → Prop) (d3 : DS), s = .pointer (some ⟨k', 0, none⟩) ∧ Quiet d3 ∧ StS (r = 0) (r = N) d0.bl l1 d3.bl ∧ d3.ws.length ≤ 256 ∧ Bag w wx k' d3 S' [(g2, laid d0.fr l1), (g1, d0.fr)] [(.slice ao1 l1.length c1, l1), (.slice ao0 l0.length c0, l0)] [])
    case first =>
     go_wp2_with fail
     go_loopw [18, 19] (fun c i wr => ∃ (q k' : Nat) (S' : Nat → Prop) (d3 : DS), c = .pointer (some ⟨k', 0, none⟩) ∧ i = .int .i64 q ∧ q ≤ 4 ∧ q ≤ L3.length ∧ Quiet d3 ∧ StS (r = 0) (r = N) d0.bl l1 d3.bl ∧ d3.ws.length ≤ 256 ∧ Bag w wr k' d3 S' [(g2, laid d0.fr l1), (g1, d0.fr)] [(.slice ao1 l1.length c1, l1), (.slice ao0 l0.length c0, l0)] []) (fun c i _ => 4 - (intOf i).toNat)
     case atStart => exact ⟨0, k', S', d3, rfl, rfl, by omega, by omega, HQ3.out, HS3.out, HW3.out, HB.out⟩
     case round =>
       clear HB HQ3 HS3 HW3
       obtain ⟨q, k', S', d3, rfl, rfl, hq4, hqL, hQ3, hS3, hW3, hb⟩ := hrel
       have HB := Lib.hid hb
       have HQ3 := Lib.hid hQ3
       have HS3 := Lib.hid hS3
       have HW3 := Lib.hid hW3
       clear hb hQ3 hS3 hW3
       by_cases hlt : q < L3.length ∧ q < 4
       · obtain ⟨b3, o3, rfl, hcell⟩ : ∃ b off, ao3 = some ⟨b, off, none⟩ ∧ ∀ i (h : i < L3.length), w.cell? ⟨b, off + i, none⟩ = some (.int .i64 L3[i]) ∧ I64 L3[i] := by
           rcases HC3.out with h | h
           · rw [h] at hlt; simp at hlt
           · exact h
         have hci := hcell q hlt.1
         generalize L3[q] = ai at *
         have HAI := Lib.hid hci.2
         have d1' : decide (q < L3.length) = true := by simp; omega
         have d2' : decide ((q : Int) < 4) = true := by simp; omega
         have d3' : (q : Int) < (L3.length : Int) := by omega
         have d4' : (0 : Int) ≤ (q : Int) := by omega
         have d5 : q + 1 ≤ L3.length := by omega
         have d6 : q + 1 ≤ 4 := by omega
         have HC0 := Lib.hid hci.1
         clear hcell hci hlt hq4 hqL
         go_wp2_with fail
         refine (bag_mark HB.out).mono ?_
         rintro e wa ⟨rfl, Sa, hb⟩
         have HB := Lib.hid hb
         clear hb
         obtain ⟨m, hm⟩ := recv_st (d := d3.mark) ⟨HQ3.out.1, HQ3.out.2⟩ HG1.out HS3.out
         go_wp2_with fail
         refine (bag_recover HB.out (by simp [DS.mark]) hm).mono ?_
         rintro e wb ⟨rfl, Sb, hb⟩
         have HB := Lib.hid hb
         clear hb hm
         obtain ⟨M, hM⟩ : ∃ M, M = (recAll d3.bl).length := ⟨_, rfl⟩
         have HM256 := Lib.hid (show M ≤ 256 by rw [hM]; exact recAll_le _)
         have HWM := Lib.hid (show d3.mark.rc.ws.length = M by rw [hM]; simp [DS.mark, DS.rc])
         have HCL := Lib.hid (HB.out.u.cell_some HC0.out (fun h => h))
         clear hM
         go_wp2_with fail
         refine wp_region_noPanic ?_
         have hQ0 : Upd (fun _ => False) wb wb.drew := (Upd.refl _ wb).drew
         have hS0 : Upd (fun _ => False) wb wb.drew := (Upd.refl _ wb).drew
         refine wp_region_held (S := fun wx => Upd (fun _ => False) wb wx) (by kernel_rfl) ?_
         refine wpAnyH_take (i := 0) (v := .pointer (some ⟨k', 0, none⟩)) (List.getElem?_toArray.trans rfl) (by kernel_rfl) (by kernel_rfl) (by kernel_rfl) (fun _ _ _ h => h) (Or.inl ⟨by rfl, fun w _ => by rfl⟩) hS0 ?_
         simp only [Act.put, List.setIfInBounds_toArray, List.set_cons_zero, List.set_cons_succ]
         refine wpAnyH_take (i := 1) (v := .slice (some ⟨b3, o3, none⟩) L3.length c3) (List.getElem?_toArray.trans rfl) (by kernel_rfl) (by kernel_rfl) (by kernel_rfl) (fun _ _ _ h => h) (Or.inl ⟨by rfl, fun w _ => by rfl⟩) hS0 ?_
         simp only [Act.put, List.setIfInBounds_toArray, List.set_cons_zero, List.set_cons_succ]
         refine wpAnyH_take (i := 2) (v := .int .i64 q) (List.getElem?_toArray.trans rfl) (by kernel_rfl) (by kernel_rfl) (by kernel_rfl) (fun _ _ _ h => h) (Or.inl ⟨by rfl, fun w _ => by rfl⟩) hS0 ?_
         simp only [Act.put, List.setIfInBounds_toArray, List.set_cons_zero, List.set_cons_succ]
         refine wpAnyH_take (i := 3) (v := .pointer (some ⟨b3, o3 + q, none⟩)) (List.getElem?_toArray.trans rfl) (by kernel_rfl) (by kernel_rfl) (by kernel_rfl) (fun _ _ _ h => h) (Or.inl ⟨by rfl, fun w _ => by go_simp⟩) hS0 ?_
         simp only [Act.put, List.setIfInBounds_toArray, List.set_cons_zero, List.set_cons_succ]
         refine wpAnyH_take (i := 4) (v := .int .i64 ai) (List.getElem?_toArray.trans rfl) (by kernel_rfl) (by kernel_rfl) (by kernel_rfl) (fun _ _ _ h => h) (Or.inl ⟨by rfl, fun wx hx => by have hc := hx.cell_some HCL.out (fun h => h); go_simp⟩) hS0 ?_
         simp only [Act.put, List.setIfInBounds_toArray, List.set_cons_zero, List.set_cons_succ]
         refine wpAnyH_take (i := 5) (v := .pointer (some ⟨k', 0, none⟩)) (List.getElem?_toArray.trans rfl) (by kernel_rfl) (by kernel_rfl) (by kernel_rfl) (fun _ _ _ h => h) (Or.inl ⟨by rfl, fun w _ => by rfl⟩) hS0 ?_
         simp only [Act.put, List.setIfInBounds_toArray, List.set_cons_zero, List.set_cons_succ]
         refine wpAnyH_ready (rs := [6]) (by kernel_rfl) (by simp) (AllReadyH.cons (List.getElem?_toArray.trans rfl) (fun K hK => ?_) AllReadyH.nil)
         go_simp
         refine (bag_writesU (n := M) (HB.out.q hQ0) HWM.out (by have := HM256.out; omega)).mono ?_
         rintro e w' ⟨⟨ao5, c5, rfl⟩, hb5, hu5⟩
         have hS1 := hS0.trans' hu5
         have HB := Lib.hid hb5
         refine hK.out _ _ hS1 (fun _ => ?_)
         try simp only [Act.put, List.setIfInBounds_toArray, List.set_cons_zero, List.set_cons_succ]
         refine wpAnyH_take (i := 7) (v := .int .i64 M) (List.getElem?_toArray.trans rfl) (by kernel_rfl) (by kernel_rfl) (by kernel_rfl) (fun _ _ _ h => h) (Or.inl ⟨by rfl, fun w _ => by go_simp⟩) hS1 ?_
         simp only [Act.put, List.setIfInBounds_toArray, List.set_cons_zero, List.set_cons_succ]
         refine wpAnyH_ready (rs := [8]) (by kernel_rfl) (by simp) (AllReadyH.cons (List.getElem?_toArray.trans rfl) (fun K hK => ?_) AllReadyH.nil)
         go_simp
         refine (within_any ai M HAI.out.1 HAI.out.2 (by omega) (by have := HM256.out; omega) _).mono ?_
         rintro e w' ⟨⟨r5, hr5, rfl⟩, rfl⟩
         have hS2 := hS1
         have HR5 := Lib.hid (show r5 ≤ M by omega)
         clear hr5
         refine hK.out _ _ hS2 (fun _ => ?_)
         try simp only [Act.put, List.setIfInBounds_toArray, List.set_cons_zero, List.set_cons_succ]
         refine wpAnyH_ready (rs := [9]) (by kernel_rfl) (by simp) (AllReadyH.cons (List.getElem?_toArray.trans rfl) (fun K hK => ?_) AllReadyH.nil)
         go_simp
         refine (bag_cutU (n := r5) HB.out (by have := HM256.out; have := HWM.out; omega) (by have := HM256.out; have := HR5.out; omega)).mono ?_
         rintro e w' ⟨k5, S5, rfl, hb5, hu5⟩
         have hS3 := hS2.trans' hu5
         have HB := Lib.hid hb5
         refine hK.out _ _ hS3 (fun _ => ?_)
         try simp only [Act.put, List.setIfInBounds_toArray, List.set_cons_zero, List.set_cons_succ]
         refine wpAnyH_take (i := 10) (v := .pointer (some ⟨k5, 0, none⟩)) (List.getElem?_toArray.trans rfl) (by kernel_rfl) (by kernel_rfl) (by kernel_rfl) (fun _ _ _ h => h) (Or.inl ⟨by rfl, fun w _ => by rfl⟩) hS3 ?_
         simp only [Act.put, List.setIfInBounds_toArray, List.set_cons_zero, List.set_cons_succ]
         refine wpAnyH_done (by kernel_rfl) ?_ _
         refine NoPanic.normal ?_
         obtain ⟨d5', h5⟩ : ∃ d5', d5' = d3.mark.rc.cut r5 := ⟨_, rfl⟩
         have HQ5 := Lib.hid (show Quiet d5' by rw [h5]; exact of_quiet _)
         have HS5 := Lib.hid (show StS (r = 0) (r = N) d0.bl l1 d5'.bl by rw [h5]; have := cut_st HG1.out HS3.out r5; simpa [DS.cut, DS.rc, DS.mark, DS.of] using this)
         have HW5 := Lib.hid (show d5'.ws.length ≤ 256 by rw [h5]; simp [DS.of, DS.cut])
         rw [← h5] at HB
         clear h5
         go_wp2_with fail
         go_roundw
         case rel => exact ⟨q + 1, k5, S5, d5', rfl, by go_num, d6, d5, HQ5.out, HS5.out, HW5.out, HB.out⟩
         case measure => simp [intOf]; omega
       · by_cases hlt1 : q < L3.length
         · have d1' : decide (q < L3.length) = true := by simp; omega
           have d2' : decide ((q : Int) < 4) = false := by simp; omega
           clear hlt hlt1 hq4 hqL
           go_wp2_with fail
           go_meet
           exact ⟨k', S', d3, rfl, HQ3.out, HS3.out, HW3.out, HB.out⟩
         · have d1' : decide (q < L3.length) = false := by simp; omega
           clear hlt hlt1 hq4 hqL
           go_wp2_with fail
           go_meet
           exact ⟨k', S', d3, rfl, HQ3.out, HS3.out, HW3.out, HB.out⟩
    case rest =>
     clear HB HQ3 HS3 HW3
     obtain ⟨k', S', d3, rfl, hQ3, hS3, hW3, hb⟩ := hcut
     have HB := Lib.hid hb
     have HQ3 := Lib.hid hQ3
     have HS3 := Lib.hid hS3
     have HW3 := Lib.hid hW3
     clear hb hQ3 hS3 hW3
     obtain ⟨m, hm⟩ := recv_st HQ3.out HG1.out HS3.out
     go_wp2_with fail
     refine (bag_recover HB.out (by have := HW3.out; omega) hm).mono ?_
     rintro e wd ⟨rfl, Sd, hb⟩
     have HB := Lib.hid hb
     clear hb hm
     obtain ⟨d4, h4⟩ : ∃ d4, d4 = d3.rc := ⟨_, rfl⟩
     have HQ4 := Lib.hid (show Quiet d4 by rw [h4]; exact rc_quiet HQ3.out)
     have HS4 := Lib.hid (show _ by have := (rc_st HG1.out HS3.out); rw [← h4] at this; exact this)
     have HW4 := Lib.hid (show d4.ws.length ≤ 600 by rw [h4]; show (d3.ws ++ recAll d3.bl).length ≤ 600; rw [List.length_append]; have := recAll_le d3.bl; have := HW3.out; omega)
     have HID4 := Lib.hid (show idle d4.bl from HS4.out.2.2.elim (fun h => h.1) (fun h => h.1))
     rw [← h4] at HB
     clear h4
     go_wp2_with fail
     refine (bag_free HB.out).mono ?_
     rintro e we ⟨rfl, hb, h64⟩
     have HB := Lib.hid hb
     clear hb
     go_wp2_with (refine wpList_var46 (by rfl) (by rfl) 24 (.tmp 113) (by rfl) (by rfl) (by rfl) _ h64 (by rfl) (by rfl) ?c3)
     case c3 =>
     intro wf hu hv
     have HB := Lib.hid (HB.out.newv hu hv)
     have hO : OldS d0.bl d4.bl → ∀ j, j < 255 → d4.fr j = d0.fr j := fun h => oldS_fr HQ4.out h (e := d0) HQ0.out rfl
     have hW : NewS d0.bl l1 d4.bl → ∀ j, j < 255 → d4.fr j = laid d0.fr l1 j := fun h j hj => (newS_fr HQ4.out h HG1.out (e := d0) HQ0.out rfl j hj).trans (with_fr (d := d0) HQ0.out HG1.out (fun _ _ => rfl) j hj).symm
     obtain ⟨a, b, ha, hb, hab, hao, hbo⟩ := either46 h64 HV1.out HF2v.out (HS4.out.2.2.elim (fun h => .inl (hO h)) (fun h => .inr (hW h)))
     have HA0 := Lib.hid (show r = 0 → a = false from fun h => hao (hO (HS4.out.1 h)))
     have HBN := Lib.hid (show r = N → b = false from fun h => hbo (hW (HS4.out.2.1 h)))
     clear hao hbo hu hv hO hW
     have HR3 := Lib.hid (HB.out.v (we.heap.size, d4.fr) (by simp)).range
     generalize we.heap.size = g3 at *
     have HR1 := Lib.hid (HB.out.v (g1, d0.fr) (by simp)).range
     have HR2 := Lib.hid (HB.out.v (g2, laid d0.fr l1) (by simp)).range
     obtain ⟨F3, hF3⟩ : ∃ F3, F3 = flatV d4.fr := ⟨_, rfl⟩
     have HSZ3 := Lib.hid (show (Try.prog.info? 46).map (·.size) = some F3.length by rw [hF3, flatV_len h64]; exact size46)
     rw [← HF1.out] at HR1 ha
     rw [← HF2.out] at HR2 hb
     rw [← hF3] at HR3 ha hb
     have HF3 := Lib.hid hF3
     have HAB := Lib.hid hab
     have HA := Lib.hid ha
     have HBB := Lib.hid hb
     rw [← hF3]
     clear ha hb hab hF3 h64
     go_upto_region 31 with fail
     go_cut [144] (fun s wx => s = .bool false ∧ wx = wf)
     case first =>
       by_cases h0 : r = 0
       · have e0 := HA0.out h0
         subst e0
         subst h0
         by_cases hN0 : 0 = N
         · have e1 := HBN.out hN0
           subst e1
           have n1 : ((0 : Int) == (N : Int)) = true := by simp; omega
           clear hN0
           go_wp2_with (first | (refine wpList_load_midG (by rfl) 46 (.tmp 24) rfl g3 0 (by rfl) F3 _ HR3.out Try.underlying46 rfl HSZ3.out ?_) | (refine wpList_load_midG (by rfl) 46 (.tmp 12) rfl g1 0 (by rfl) F1 _ HR1.out Try.underlying46 rfl HSZ1.out ?_) | (refine wpList_load_midG (by rfl) 46 (.tmp 14) rfl g2 0 (by rfl) F2 _ HR2.out Try.underlying46 rfl HSZ2.out ?_) | (refine wpList_binG (by rfl) .neq 46 (.tmp 117) (.tmp 118) rfl F3.toArray F1.toArray (by rfl) (by rfl) Try.eqGuardType46 (HA.out _) ?_) | (refine wpList_binG (by rfl) .neq 46 (.tmp 121) (.tmp 122) rfl F3.toArray F2.toArray (by rfl) (by rfl) Try.eqGuardType46 (HBB.out _) ?_) | (refine wpList_binG (by rfl) .neq 46 (.tmp 130) (.tmp 131) rfl F3.toArray F1.toArray (by rfl) (by rfl) Try.eqGuardType46 (HA.out _) ?_) | (refine wpList_binG (by rfl) .neq 46 (.tmp 140) (.tmp 141) rfl F3.toArray F2.toArray (by rfl) (by rfl) Try.eqGuardType46 (HBB.out _) ?_) | fail)
           go_meet
           exact ⟨rfl, rfl⟩
         · have n1 : ((0 : Int) == (N : Int)) = false := by simp; omega
           clear hN0
           go_wp2_with (first | (refine wpList_load_midG (by rfl) 46 (.tmp 24) rfl g3 0 (by rfl) F3 _ HR3.out Try.underlying46 rfl HSZ3.out ?_) | (refine wpList_load_midG (by rfl) 46 (.tmp 12) rfl g1 0 (by rfl) F1 _ HR1.out Try.underlying46 rfl HSZ1.out ?_) | (refine wpList_load_midG (by rfl) 46 (.tmp 14) rfl g2 0 (by rfl) F2 _ HR2.out Try.underlying46 rfl HSZ2.out ?_) | (refine wpList_binG (by rfl) .neq 46 (.tmp 117) (.tmp 118) rfl F3.toArray F1.toArray (by rfl) (by rfl) Try.eqGuardType46 (HA.out _) ?_) | (refine wpList_binG (by rfl) .neq 46 (.tmp 121) (.tmp 122) rfl F3.toArray F2.toArray (by rfl) (by rfl) Try.eqGuardType46 (HBB.out _) ?_) | (refine wpList_binG (by rfl) .neq 46 (.tmp 130) (.tmp 131) rfl F3.toArray F1.toArray (by rfl) (by rfl) Try.eqGuardType46 (HA.out _) ?_) | (refine wpList_binG (by rfl) .neq 46 (.tmp 140) (.tmp 141) rfl F3.toArray F2.toArray (by rfl) (by rfl) Try.eqGuardType46 (HBB.out _) ?_) | fail)
           go_meet
           exact ⟨rfl, rfl⟩
       · have n0' : ((r : Int) == 0) = false := by simp; omega
         by_cases hqN : r = N
         · have e1 := HBN.out hqN
           subst e1
           subst hqN
           cases a with
           | false =>
             go_wp2_with (first | (refine wpList_load_midG (by rfl) 46 (.tmp 24) rfl g3 0 (by rfl) F3 _ HR3.out Try.underlying46 rfl HSZ3.out ?_) | (refine wpList_load_midG (by rfl) 46 (.tmp 12) rfl g1 0 (by rfl) F1 _ HR1.out Try.underlying46 rfl HSZ1.out ?_) | (refine wpList_load_midG (by rfl) 46 (.tmp 14) rfl g2 0 (by rfl) F2 _ HR2.out Try.underlying46 rfl HSZ2.out ?_) | (refine wpList_binG (by rfl) .neq 46 (.tmp 117) (.tmp 118) rfl F3.toArray F1.toArray (by rfl) (by rfl) Try.eqGuardType46 (HA.out _) ?_) | (refine wpList_binG (by rfl) .neq 46 (.tmp 121) (.tmp 122) rfl F3.toArray F2.toArray (by rfl) (by rfl) Try.eqGuardType46 (HBB.out _) ?_) | (refine wpList_binG (by rfl) .neq 46 (.tmp 130) (.tmp 131) rfl F3.toArray F1.toArray (by rfl) (by rfl) Try.eqGuardType46 (HA.out _) ?_) | (refine wpList_binG (by rfl) .neq 46 (.tmp 140) (.tmp 141) rfl F3.toArray F2.toArray (by rfl) (by rfl) Try.eqGuardType46 (HBB.out _) ?_) | fail)
             go_meet
             exact ⟨rfl, rfl⟩
           | true =>
             go_wp2_with (first | (refine wpList_load_midG (by rfl) 46 (.tmp 24) rfl g3 0 (by rfl) F3 _ HR3.out Try.underlying46 rfl HSZ3.out ?_) | (refine wpList_load_midG (by rfl) 46 (.tmp 12) rfl g1 0 (by rfl) F1 _ HR1.out Try.underlying46 rfl HSZ1.out ?_) | (refine wpList_load_midG (by rfl) 46 (.tmp 14) rfl g2 0 (by rfl) F2 _ HR2.out Try.underlying46 rfl HSZ2.out ?_) | (refine wpList_binG (by rfl) .neq 46 (.tmp 117) (.tmp 118) rfl F3.toArray F1.toArray (by rfl) (by rfl) Try.eqGuardType46 (HA.out _) ?_) | (refine wpList_binG (by rfl) .neq 46 (.tmp 121) (.tmp 122) rfl F3.toArray F2.toArray (by rfl) (by rfl) Try.eqGuardType46 (HBB.out _) ?_) | (refine wpList_binG (by rfl) .neq 46 (.tmp 130) (.tmp 131) rfl F3.toArray F1.toArray (by rfl) (by rfl) Try.eqGuardType46 (HA.out _) ?_) | (refine wpList_binG (by rfl) .neq 46 (.tmp 140) (.tmp 141) rfl F3.toArray F2.toArray (by rfl) (by rfl) Try.eqGuardType46 (HBB.out _) ?_) | fail)
             go_meet
             exact ⟨rfl, rfl⟩
         · have n1 : ((r : Int) == (N : Int)) = false := by simp; omega
           cases a with
           | false =>
             go_wp2_with (first | (refine wpList_load_midG (by rfl) 46 (.tmp 24) rfl g3 0 (by rfl) F3 _ HR3.out Try.underlying46 rfl HSZ3.out ?_) | (refine wpList_load_midG (by rfl) 46 (.tmp 12) rfl g1 0 (by rfl) F1 _ HR1.out Try.underlying46 rfl HSZ1.out ?_) | (refine wpList_load_midG (by rfl) 46 (.tmp 14) rfl g2 0 (by rfl) F2 _ HR2.out Try.underlying46 rfl HSZ2.out ?_) | (refine wpList_binG (by rfl) .neq 46 (.tmp 117) (.tmp 118) rfl F3.toArray F1.toArray (by rfl) (by rfl) Try.eqGuardType46 (HA.out _) ?_) | (refine wpList_binG (by rfl) .neq 46 (.tmp 121) (.tmp 122) rfl F3.toArray F2.toArray (by rfl) (by rfl) Try.eqGuardType46 (HBB.out _) ?_) | (refine wpList_binG (by rfl) .neq 46 (.tmp 130) (.tmp 131) rfl F3.toArray F1.toArray (by rfl) (by rfl) Try.eqGuardType46 (HA.out _) ?_) | (refine wpList_binG (by rfl) .neq 46 (.tmp 140) (.tmp 141) rfl F3.toArray F2.toArray (by rfl) (by rfl) Try.eqGuardType46 (HBB.out _) ?_) | fail)
             go_meet
             exact ⟨rfl, rfl⟩
           | true =>
             have e1 := HAB.out rfl
             subst e1
             go_wp2_with (first | (refine wpList_load_midG (by rfl) 46 (.tmp 24) rfl g3 0 (by rfl) F3 _ HR3.out Try.underlying46 rfl HSZ3.out ?_) | (refine wpList_load_midG (by rfl) 46 (.tmp 12) rfl g1 0 (by rfl) F1 _ HR1.out Try.underlying46 rfl HSZ1.out ?_) | (refine wpList_load_midG (by rfl) 46 (.tmp 14) rfl g2 0 (by rfl) F2 _ HR2.out Try.underlying46 rfl HSZ2.out ?_) | (refine wpList_binG (by rfl) .neq 46 (.tmp 117) (.tmp 118) rfl F3.toArray F1.toArray (by rfl) (by rfl) Try.eqGuardType46 (HA.out _) ?_) | (refine wpList_binG (by rfl) .neq 46 (.tmp 121) (.tmp 122) rfl F3.toArray F2.toArray (by rfl) (by rfl) Try.eqGuardType46 (HBB.out _) ?_) | (refine wpList_binG (by rfl) .neq 46 (.tmp 130) (.tmp 131) rfl F3.toArray F1.toArray (by rfl) (by rfl) Try.eqGuardType46 (HA.out _) ?_) | (refine wpList_binG (by rfl) .neq 46 (.tmp 140) (.tmp 141) rfl F3.toArray F2.toArray (by rfl) (by rfl) Try.eqGuardType46 (HBB.out _) ?_) | fail)
             go_meet
             exact ⟨rfl, rfl⟩
     case rest =>
     obtain ⟨rfl, rfl⟩ := hcut
     clear HR1 HR2 HR3
     go_wp2_with fail
     refine (bag_group HB.out HI4.out HM4.out).mono ?_
     rintro e wg ⟨ao4, c4, l4, rfl, hg, hb⟩
     have HG4 := Lib.hid hg
     have HB := Lib.hid hb
     clear hg hb
     go_wp2_with fail
     refine (bag_apply (V := .slice ao4 l4.length c4) (l := l4) HB.out HQ4.out HID4.out (by have := HW4.out; omega) HG4.out (by simp)).mono ?_
     rintro e wh ⟨rfl, Sh, hb, _⟩
     have HB := Lib.hid hb
     clear hb
     go_wp2_with fail
     go_loopw [26] (fun i wr => ∃ p : Nat, i = .int .i64 p ∧ p ≤ l4.length ∧ Var46 wr g3 (laid d4.fr (l4.take p)) ∧ Upd (fun j => j = g3) wh wr) (fun i _ => l4.length - (intOf i).toNat)
     case atStart => exact ⟨0, rfl, Nat.zero_le _, HB.out.v (g3, d4.fr) (by simp), Upd.refl _ _⟩
     case round =>
       obtain ⟨p, rfl, hp, hv, hu⟩ := hrel
       have HV := Lib.hid hv
       have HUr := Lib.hid hu
       have HO5 := Lib.hid (HB.out.o (.slice ao4 l4.length c4, l4) (by simp))
       have HOB := Lib.hid (HB.out.ov (.slice ao4 l4.length c4, l4) (by simp) (g3, d4.fr) (by simp))
       clear hv hu
       by_cases hlp : p < l4.length
       · obtain ⟨g, rfl⟩ : ∃ g, ao4 = some ⟨g, 0, none⟩ := by
           rcases HO5.out.2 with ⟨_, h⟩ | ⟨g, _, _, h, _⟩
           · simp only at h; omega
           · simp only [Value.slice.injEq] at h
             exact ⟨g, h.1⟩
         have hcl : l4.length ≤ c4 := by
           rcases HO5.out.2 with ⟨h, _⟩ | ⟨g', c', _, h, _, _, hc, _⟩
           · simp only [Value.slice.injEq, reduceCtorEq, false_and] at h
           · simp only [Value.slice.injEq, Option.some.injEq, Addr.mk.injEq, and_true, true_and] at h
             simp only at hc
             omega
         have hgg : g ≠ g3 := fun e => HOB.out (by simp [Value.ownBlock, e])
         have hra := range_upd (ws_at (ownsRow_base HO5.out (fun _ _ => Nat.zero_le _)) (fun x hx => (HG4.out.at_ x hx).2) p hlp) HUr.out hgg
         have hxg := HG4.out.at_ _ (List.getElem_mem hlp)
         have hx? : l4[p]? = some l4[p] := List.getElem?_eq_getElem hlp
         try simp only at hra
         generalize l4[p] = x at *
         obtain ⟨xi, xb⟩ := x
         have HXG := Lib.hid (show 25 ≤ xi ∧ xi < 255 ∧ xb.length = 64 from hxg)
         have HLS := Lib.hid (laid_step (f := d4.fr) hx?)
         have ca : wr.cell? ⟨g, p * 65, none⟩ = some (.int .i64 (xi : Int)) := hra 0 _ rfl
         have hrb : wr.rangeAt g (p * 65 + 1) (bytesV xb) := fun j v hv => by
           have := hra (j + 1) v (by simpa [wcells] using hv)
           rwa [show p * 65 + (j + 1) = p * 65 + 1 + j by omega] at this
         have hth := HV.out.1.there xi HXG.out.2.1
         obtain ⟨B, hB⟩ : ∃ B, B = bytesV xb := ⟨_, rfl⟩
         have hbl : B.length = 64 := by rw [hB, bytesV_length]; exact HXG.out.2.2
         have hb1 : ∀ u ∈ B, u.oneCell' = true := by rw [hB]; exact bytesV_one _
         rw [← hB] at hrb
         have HBY := Lib.hid hB
         have hsz : (Try.prog.info? 28).map (·.size) = some B.length := by rw [hbl]; exact size28
         have hu28 := Try.underlying28
         have f1 : (p : Int) < (l4.length : Int) := by omega
         have f0 : (0 : Int) ≤ (p : Int) := by omega
         have f3 : p + 1 ≤ l4.length := by omega
         have f4 : (0 : Int) ≤ (xi : Int) := by omega
         have f5 : (xi : Int) < 255 := by have := HXG.out.2.1; omega
         have f6 : l4.length ≤ 24 := HG4.out.len
         have hgg4 : g3 ≠ g := fun e => hgg e.symm
         have HKeep : Hid (∀ wx : World, (wx.cell? ⟨g, p * 65, none⟩ = some (.int .i64 (xi : Int)) ∧ wx.rangeAt g (p * 65 + 1) B ∧ wx.there g3 (xi * 64) 64) → ((wx.setCells g3 (xi * 64) B).cell? ⟨g, p * 65, none⟩ = some (.int .i64 (xi : Int)) ∧ (wx.setCells g3 (xi * 64) B).rangeAt g (p * 65 + 1) B ∧ (wx.setCells g3 (xi * 64) B).there g3 (xi * 64) 64)) := by
           intro wx ⟨h1, h2, h3⟩
           refine ⟨?_, World.rangeAt_setCells_apart h2 _ _ _ (.inl hgg), World.there_setCells h3 _ _ _⟩
           rw [World.cell?_setCells_out g3 B _ wx ⟨g, p * 65, none⟩ (fun h => absurd h hgg)]
           exact h1
         clear hra hxg hx? hB hlp hp hcl
         go_wp2_with fail
         go_region_held3 (fun wx => wx.cell? ⟨g, p * 65, none⟩ = some (.int .i64 (xi : Int)) ∧ wx.rangeAt g (p * 65 + 1) B ∧ wx.there g3 (xi * 64) 64) (first | exact HKeep.out _ (by assumption) | go_keep_ranges) (fail)
         rename_i hHeld
         have hfv : Var46 (wr.drew.setCells g3 (xi * 64) B) g3 (laid d4.fr (l4.take (p + 1))) := by
           rw [HLS.out, HBY.out]
           exact (HV.out.upd ((Upd.refl (fun _ => False) wr).drew) (fun h => h)).put xi HXG.out.2.1 xb HXG.out.2.2
         have hfu : Upd (fun j => j = g3) wh (wr.drew.setCells g3 (xi * 64) B) := upd_setCells HUr.out.drew _ _ _ (fun _ => rfl)
         have HFV := Lib.hid hfv
         have HFU := Lib.hid hfu
         generalize wr.drew.setCells g3 (xi * 64) B = wq at *
         clear hHeld hfv hfu HKeep ca hrb hth hsz hu28 f4 f5
         go_wp2_with fail
         go_roundw
         case rel => exact ⟨p + 1, by go_num, f3, HFV.out, HFU.out⟩
         case measure => simp [intOf]; omega
       have hpl : p = l4.length := by omega
       subst hpl
       have hv := HV.out
       rw [List.take_length] at hv
       have HB := Lib.hid (HB.out.put HUr.out hv)
       have f1 : ¬ ((l4.length : Int) < (l4.length : Int)) := by omega
       clear hv hlp hp HV HUr HO5 HOB
       obtain ⟨wo2, rfl⟩ : ∃ wo : World, wo = wr := ⟨_, rfl⟩
       have HR3 := Lib.hid (HB.out.v (g3, laid d4.fr l4) (by simp)).range
       have HV3 := Lib.hid (HB.out.v (g3, laid d4.fr l4) (by simp)).2
       obtain ⟨F4, hF4⟩ : ∃ F4, F4 = flatV (laid d4.fr l4) := ⟨_, rfl⟩
       have HSZ4 := Lib.hid (show (Try.prog.info? 46).map (·.size) = some F4.length by rw [hF4, flatV_len HV3.out]; exact size46)
       have HEF := Lib.hid (show F4 = flatV (d4.with l4).fr by rw [hF4]; exact flatV_congr (fun j hj => with_fr HQ4.out HG4.out (fun _ _ => rfl) j hj))
       have HQF := Lib.hid (fun w => eql46 HV3.out hF4 w)
       rw [← hF4] at HR3
       clear hF4
       go_wp2_with fail
       refine wp_region_noPanic ?_
       have hQ0 : Upd (fun _ => False) wo2 wo2.drew := (Upd.refl _ wo2).drew
       have hS0 : Upd (fun _ => False) wo2 wo2.drew := (Upd.refl _ wo2).drew
       refine wp_region_held (S := fun wx => Upd (fun _ => False) wo2 wx) (by kernel_rfl) ?_
       refine wpAnyH_take (i := 0) (v := .pointer (some ⟨k', 0, none⟩)) (List.getElem?_toArray.trans rfl) (by kernel_rfl) (by kernel_rfl) (by kernel_rfl) (fun _ _ _ h => h) (Or.inl ⟨by rfl, fun w _ => by rfl⟩) hS0 ?_
       simp only [Act.put, List.setIfInBounds_toArray, List.set_cons_zero, List.set_cons_succ]
       refine wpAnyH_take (i := 2) (v := .agg F4.toArray) (List.getElem?_toArray.trans rfl) (by kernel_rfl) (by kernel_rfl) (by kernel_rfl) (fun _ _ _ h => h) (yieldsIf_load_mid (by rfl) 46 _ rfl g3 0 rfl F4 _ (fun w h => range_upd HR3.out h (fun h => h)) Try.underlying46 rfl HSZ4.out) hS0 ?_
       simp only [Act.put, List.setIfInBounds_toArray, List.set_cons_zero, List.set_cons_succ]
       refine wpAnyH_ready (rs := [1]) (by kernel_rfl) (by simp) (AllReadyH.cons (List.getElem?_toArray.trans rfl) (fun K hK => ?_) AllReadyH.nil)
       go_simp
       refine (bag_freeF (HB.out.q hQ0) HEF.out).mono ?_
       rintro e w' ⟨rfl, hb, hA⟩
       have hS1 := hS0.trans' hA
       have HB := Lib.hid hb
       refine hK.out _ _ hS1 (fun _ => ?_)
       try simp only [Act.put, List.setIfInBounds_toArray, List.set_cons_zero, List.set_cons_succ]
       refine wpAnyH_take (i := 3) (v := .bool true) (List.getElem?_toArray.trans rfl) (by kernel_rfl) (by kernel_rfl) (by kernel_rfl) (fun _ _ _ h => h) (Or.inl ⟨by rfl, fun w _ => exec_bin .eql 46 (.tmp 169) (.tmp 170) rfl F4.toArray F4.toArray (by rfl) (by rfl) Try.eqGuardType46 (HQF.out w)⟩) hS1 ?_
       simp only [Act.put, List.setIfInBounds_toArray, List.set_cons_zero, List.set_cons_succ]
       refine wpAnyH_take (i := 4) (v := .bool true) (List.getElem?_toArray.trans rfl) (by kernel_rfl) (by kernel_rfl) (by kernel_rfl) (fun _ _ _ h => h) (Or.inl ⟨by rfl, fun w _ => by rfl⟩) hS1 ?_
       simp only [Act.put, List.setIfInBounds_toArray, List.set_cons_zero, List.set_cons_succ]
       refine wpAnyH_ready (rs := [5]) (by kernel_rfl) (by simp) (AllReadyH.cons (List.getElem?_toArray.trans rfl) (fun K hK => ?_) AllReadyH.nil)
       go_simp
       refine (known24_any _).mono ?_
       rintro e w' ⟨rfl, hA⟩
       have hS2 := hS1.trans' hA
       have HB := Lib.hid (HB.out.q hA)
       refine hK.out _ _ hS2 (fun _ => ?_)
       try simp only [Act.put, List.setIfInBounds_toArray, List.set_cons_zero, List.set_cons_succ]
       refine wpAnyH_take (i := 6) (v := .bool true) (List.getElem?_toArray.trans rfl) (by kernel_rfl) (by kernel_rfl) (by kernel_rfl) (fun _ _ _ h => h) (Or.inl ⟨by rfl, fun w _ => by go_simp⟩) hS2 ?_
       simp only [Act.put, List.setIfInBounds_toArray, List.set_cons_zero, List.set_cons_succ]
       refine wpAnyH_take (i := 7) (v := .bool true) (List.getElem?_toArray.trans rfl) (by kernel_rfl) (by kernel_rfl) (by kernel_rfl) (fun _ _ _ h => h) (Or.inl ⟨by rfl, fun w _ => by rfl⟩) hS2 ?_
       simp only [Act.put, List.setIfInBounds_toArray, List.set_cons_zero, List.set_cons_succ]
       refine wpAnyH_done (by kernel_rfl) ?_ _
       refine NoPanic.normal ?_
       go_wp2
       go_ret
       exact ⟨rfl, HB.out.u⟩
       end Go.Proofs.Ytckgcfkahffibaa

