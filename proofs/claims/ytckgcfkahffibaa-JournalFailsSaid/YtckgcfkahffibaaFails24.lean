import Derived.Test.YtckgcfkahffibaaLaw24d
import Derived.Test.YtckgcfkahffibaaCuts
namespace Go.Proofs.Ytckgcfkahffibaa
open Go.RowKit
set_option linter.unusedVariables false
set_option linter.unusedSimpArgs false
set_option maxHeartbeats 8000000 in
set_option maxRecDepth 100000 in
theorem fails24_any (v0 : Value) (n1 n2 : Int) (L0 : List (Int × UInt8)) (w : World) (hI0 : IB w 2 0 1 v0 L0) (hm0 : L0.length ≤ 9223372036854775807) (h1 : I64 n1) (h2 : I64 n2) :
    Calls Try.prog 11 #[v0, .int .i64 n1, .int .i64 n2] w fun e w' => e = .returned (.bool true) ∧ Upd (fun _ => False) w w' := by
  have HI0 := Lib.hid hI0
  have HM0 := Lib.hid hm0
  have HN1 := Lib.hid h1
  have HN2 := Lib.hid h2
  clear hI0 hm0 h1 h2
  go_enter Try.func11, Try.ntmps11
  go_wp2_with fail
  refine (new_dsk w).mono ?_
  rintro e w1 ⟨k, S, rfl, hd, hs, hu⟩
  have HB := Lib.hid (Bag.new hd hs hu)
  clear hd hs hu
  go_wp2_with fail
  refine (bag_group HB.out HI0.out HM0.out).mono ?_
  rintro e w2 ⟨ao0, c0, l0, rfl, hg, hb⟩
  have HG0 := Lib.hid hg
  have HB := Lib.hid hb
  clear hg hb
  go_wp2_with fail
  refine (bag_free HB.out).mono ?_
  rintro e w5 ⟨rfl, hb, h64⟩
  have HB := Lib.hid hb
  clear hb
  go_wp2_with (refine wpList_var46 (by rfl) (by rfl) 9 (.tmp 26) (by rfl) (by rfl) (by rfl) _ h64 (by rfl) (by rfl) ?c1)
  case c1 =>
  intro w6 hu hv
  have HB := Lib.hid (HB.out.newv hu hv)
  have HV1 := Lib.hid h64
  clear hu hv
  generalize w5.heap.size = g1 at *
  have HR1 := Lib.hid (HB.out.v (g1, DS.new.fr) (by simp)).range
  obtain ⟨F1, hF1⟩ : ∃ F1, F1 = flatV DS.new.fr := ⟨_, rfl⟩
  rw [← hF1] at HR1
  have HSZ1 := Lib.hid (show (Try.prog.info? 46).map (·.size) = some F1.length by rw [hF1, flatV_len h64]; exact size46)
  have HF1 := Lib.hid hF1
  clear hF1
  go_wp2_with (first | (refine wpList_load_midG (by rfl) 46 (.tmp 9) rfl g1 0 (by rfl) F1 _ HR1.out Try.underlying46 rfl HSZ1.out ?_) | (refine wpList_var46 (by rfl) (by rfl) 10 (.tmp 27) (by rfl) (by rfl) (by rfl) DS.new.fr HV1.out (by rfl) (by rw [← HF1.out]; rfl) ?c2))
  case c2 =>
  intro w7 hu hv
  have HB := Lib.hid (HB.out.newv hu hv)
  clear hu hv
  generalize w6.heap.size = g2 at *
  go_wp2_with fail
  go_loopw [11] (fun i wr => ∃ p : Nat, i = .int .i64 p ∧ p ≤ l0.length ∧ Var46 wr g2 (laid DS.new.fr (l0.take p)) ∧ Upd (fun j => j = g2) w7 wr) (fun i _ => l0.length - (intOf i).toNat)
  case atStart => exact ⟨0, rfl, Nat.zero_le _, HB.out.v (g2, DS.new.fr) (by simp), Upd.refl _ _⟩
  case round =>
    obtain ⟨p, rfl, hp, hv, hu⟩ := hrel
    have HV := Lib.hid hv
    have HUr := Lib.hid hu
    have HO5 := Lib.hid (HB.out.o (.slice ao0 l0.length c0, l0) (by simp))
    have HOB := Lib.hid (HB.out.ov (.slice ao0 l0.length c0, l0) (by simp) (g2, DS.new.fr) (by simp))
    clear hv hu
    by_cases hlp : p < l0.length
    · obtain ⟨g, rfl⟩ : ∃ g, ao0 = some ⟨g, 0, none⟩ := by
        rcases HO5.out.2 with ⟨_, h⟩ | ⟨g, _, _, h, _⟩
        · simp only at h; omega
        · simp only [Value.slice.injEq] at h
          exact ⟨g, h.1⟩
      have hcl : l0.length ≤ c0 := by
        rcases HO5.out.2 with ⟨h, _⟩ | ⟨g', c', _, h, _, _, hc, _⟩
        · simp only [Value.slice.injEq, reduceCtorEq, false_and] at h
        · simp only [Value.slice.injEq, Option.some.injEq, Addr.mk.injEq, and_true, true_and] at h
          simp only at hc
          omega
      have hgg : g ≠ g2 := fun e => HOB.out (by simp [Value.ownBlock, e])
      have hra := range_upd (ws_at (ownsRow_base HO5.out (fun _ _ => Nat.zero_le _)) (fun x hx => (HG0.out.at_ x hx).2) p hlp) HUr.out hgg
      have hxg := HG0.out.at_ _ (List.getElem_mem hlp)
      have hx? : l0[p]? = some l0[p] := List.getElem?_eq_getElem hlp
      try simp only at hra
      generalize l0[p] = x at *
      obtain ⟨xi, xb⟩ := x
      have HXG := Lib.hid (show 25 ≤ xi ∧ xi < 255 ∧ xb.length = 64 from hxg)
      have HLS := Lib.hid (laid_step (f := DS.new.fr) hx?)
      have ca : wr.cell? ⟨g, p * 65, none⟩ = some (.int .i64 (xi : Int)) := hra 0 _ rfl
      have hrb : wr.rangeAt g (p * 65 + 1) (bytesV xb) := fun j v hv => by
        have := hra (j + 1) v (by simpa [wcells] using hv)
        rwa [show p * 65 + (j + 1) = p * 65 + 1 + j by omega] at this
      have hth := HV.out.1.there xi HXG.out.2.1
      obtain ⟨B, hB⟩ : ∃ B, B = bytesV xb := ⟨_, rfl⟩
      have hbl : B.length = 64 := by rw [hB, bytesV_length]; exact HXG.out.2.2
      have hb1 : ∀ u ∈ B, u.oneCell' = true := by rw [hB]; exact bytesV_one _
      rw [← hB] at hrb
      have HBY := Lib.hid hB
      have hsz : (Try.prog.info? 28).map (·.size) = some B.length := by rw [hbl]; exact size28
      have hu28 := Try.underlying28
      have f1 : (p : Int) < (l0.length : Int) := by omega
      have f0 : (0 : Int) ≤ (p : Int) := by omega
      have f3 : p + 1 ≤ l0.length := by omega
      have f4 : (0 : Int) ≤ (xi : Int) := by omega
      have f5 : (xi : Int) < 255 := by have := HXG.out.2.1; omega
      have f6 : l0.length ≤ 24 := HG0.out.len
      have hgg4 : g2 ≠ g := fun e => hgg e.symm
      have HKeep : Hid (∀ wx : World, (wx.cell? ⟨g, p * 65, none⟩ = some (.int .i64 (xi : Int)) ∧ wx.rangeAt g (p * 65 + 1) B ∧ wx.there g2 (xi * 64) 64) → ((wx.setCells g2 (xi * 64) B).cell? ⟨g, p * 65, none⟩ = some (.int .i64 (xi : Int)) ∧ (wx.setCells g2 (xi * 64) B).rangeAt g (p * 65 + 1) B ∧ (wx.setCells g2 (xi * 64) B).there g2 (xi * 64) 64)) := by
        intro wx ⟨h1, h2, h3⟩
        refine ⟨?_, World.rangeAt_setCells_apart h2 _ _ _ (.inl hgg), World.there_setCells h3 _ _ _⟩
        rw [World.cell?_setCells_out g2 B _ wx ⟨g, p * 65, none⟩ (fun h => absurd h hgg)]
        exact h1
      clear hra hxg hx? hB hlp hp hcl
      go_wp2_with fail
      go_region_held3 (fun wx => wx.cell? ⟨g, p * 65, none⟩ = some (.int .i64 (xi : Int)) ∧ wx.rangeAt g (p * 65 + 1) B ∧ wx.there g2 (xi * 64) 64) (first | exact HKeep.out _ (by assumption) | go_keep_ranges) (fail)
      rename_i hHeld
      have hfv : Var46 (wr.drew.setCells g2 (xi * 64) B) g2 (laid DS.new.fr (l0.take (p + 1))) := by
        rw [HLS.out, HBY.out]
        exact (HV.out.upd ((Upd.refl (fun _ => False) wr).drew) (fun h => h)).put xi HXG.out.2.1 xb HXG.out.2.2
      have hfu : Upd (fun j => j = g2) w7 (wr.drew.setCells g2 (xi * 64) B) := upd_setCells HUr.out.drew _ _ _ (fun _ => rfl)
      have HFV := Lib.hid hfv
      have HFU := Lib.hid hfu
      generalize wr.drew.setCells g2 (xi * 64) B = wq at *
      clear hHeld hfv hfu HKeep ca hrb hth hsz hu28 f4 f5
      go_wp2_with fail
      go_roundw
      case rel => exact ⟨p + 1, by go_num, f3, HFV.out, HFU.out⟩
      case measure => simp [intOf]; omega
    have hpl : p = l0.length := by omega
    subst hpl
    have hv := HV.out
    rw [List.take_length] at hv
    have HB := Lib.hid (HB.out.put HUr.out hv)
    have f1 : ¬ ((l0.length : Int) < (l0.length : Int)) := by omega
    clear hv hlp hp HV HUr HO5 HOB
    obtain ⟨wo, rfl⟩ : ∃ wo : World, wo = wr := ⟨_, rfl⟩
    have HF2v := Lib.hid (HB.out.v (g2, laid DS.new.fr l0) (by simp)).2
    obtain ⟨F2, hF2⟩ : ∃ F2, F2 = flatV (laid DS.new.fr l0) := ⟨_, rfl⟩
    have HSZ2 := Lib.hid (show (Try.prog.info? 46).map (·.size) = some F2.length by rw [hF2, flatV_len HF2v.out]; exact size46)
    have HF2 := Lib.hid hF2
    clear hF2
    go_wp2_with fail
    refine (within_any n1 60 HN1.out.1 HN1.out.2 (by omega) (by omega) wo).mono ?_
    rintro e w12 ⟨⟨r, hr, rfl⟩, rfl⟩
    have HR := Lib.hid (show r ≤ 60 by omega)
    clear hr
    go_wp2_with fail
    refine (bag_fail HB.out r (by have := HR.out; omega)).mono ?_
    rintro e w13 ⟨rfl, hb⟩
    have HB := Lib.hid hb
    clear hb
    obtain ⟨d1, hd1⟩ : ∃ d1 : DS, d1 = { DS.new with left := (r : Int) } := ⟨_, rfl⟩
    have hapl := app_left (d := d1) (l := l0) (n := r) (by rw [hd1]; rfl) (by rw [hd1]) (by rw [hd1]; rfl) HG0.out
    have hml1 : d1.ml = DS.new.bl := by rw [hd1]; rfl
    have hws1 : d1.ws = [] := by rw [hd1]; rfl
    rw [← hd1] at HB
    clear hd1
    obtain ⟨dd, hap, hml, hws⟩ := hapl
    rw [hml1] at hml
    rw [hws1, List.nil_append] at hws
    obtain ⟨E, hE⟩ : ∃ E : Int, E = if (fullW l0).length ≤ r then 0 else 37 := ⟨_, rfl⟩
    rw [← hE] at hap
    go_wp2_with fail
    refine (bag_applyX (V := .slice ao0 l0.length c0) (l := l0) HB.out (by rw [hws1]; simp) HG0.out (by simp) hap).mono ?_
    rintro e w14 ⟨rfl, S14, hb⟩
    have HB := Lib.hid hb
    have HE2 := Lib.hid (show E = 0 ∨ E = 37 by rw [hE]; by_cases h : (fullW l0).length ≤ r <;> simp [h])
    have HEL := Lib.hid (show E = 0 → (fullW l0).length ≤ r by rw [hE]; by_cases h : (fullW l0).length ≤ r <;> simp [h])
    obtain ⟨M, hM⟩ : ∃ M, M = dd.ws.length := ⟨_, rfl⟩
    have HM := Lib.hid (show dd.ws.length = M from hM.symm)
    have HMr := Lib.hid (show M ≤ r by rw [hM, hws]; exact List.length_take_le _ _)
    have HMW := Lib.hid (show dd.cut r = DS.of (laid DS.new.bl ((fullW l0).take r)) by unfold DS.cut; rw [hml, hws, List.take_take, Nat.min_self])
    clear hb hml hws hws1 hml1 hap hE hM
    go_upto_region 14 with fail
    go_cut [65] (fun s wx => s = .bool false ∧ Bag w wx k dd S14 [(g2, laid DS.new.fr l0), (g1, DS.new.fr)] [(.slice ao0 l0.length c0, l0)] [])
    case first =>
      have q1 : decide (r < M) = false := by have := HMr.out; simp; omega
      have q2 : ¬ ((r : Int) < (M : Int)) := by have := HMr.out; omega
      rcases HE2.out with rfl | rfl
      · go_wp2_with fail
        refine (bag_writes (n := M) HB.out HM.out (by have := HMr.out; have := HR.out; omega)).mono ?_
        rintro e wa ⟨⟨ao2, c2, rfl⟩, hb⟩
        have HB := Lib.hid hb
        clear hb
        go_wp2_with fail
        go_meet
        exact ⟨rfl, HB.out⟩
      · go_wp2_with fail
        refine (bag_writes (n := M) HB.out HM.out (by have := HMr.out; have := HR.out; omega)).mono ?_
        rintro e wa ⟨⟨ao2, c2, rfl⟩, hb⟩
        have HB := Lib.hid hb
        clear hb
        go_wp2_with fail
        go_meet
        exact ⟨rfl, HB.out⟩
    case rest =>
    clear HB
    obtain ⟨rfl, hb⟩ := hcut
    have HB := Lib.hid hb
    clear hb
    go_wp2_with fail
    refine (bag_cut (n := r) HB.out (by have := HM.out; have := HMr.out; have := HR.out; omega) (by have := HR.out; omega)).mono ?_
    rintro e w15 ⟨k', S', rfl, hb⟩
    have HB := Lib.hid hb
    clear hb
    obtain ⟨d3, h3⟩ : ∃ d3, d3 = dd.cut r := ⟨_, rfl⟩
    rw [← h3] at HB
    have h3' := h3.trans HMW.out
    have HS3 := Lib.hid (show StS (r = 0) ((fullW l0).length ≤ r) DS.new.bl l0 d3.bl by rw [h3']; exact full_st' (show idle DS.new.bl from rfl) HG0.out r)
    have HD3 := Lib.hid (show d3.gone = false ∧ d3.ws = [] ∧ d3.ml = d3.bl by rw [h3']; exact ⟨rfl, rfl, rfl⟩)
    clear h3 h3'
    go_wp2_with fail
    refine (within_any n2 40 HN2.out.1 HN2.out.2 (by omega) (by omega) w15).mono ?_
    rintro e w16 ⟨⟨r2, hr, rfl⟩, rfl⟩
    have HR2' := Lib.hid (show r2 ≤ 40 by omega)
    clear hr
    go_wp2_with fail
    refine (bag_fail HB.out r2 (by have := HR2'.out; omega)).mono ?_
    rintro e w17 ⟨rfl, hb⟩
    have HB := Lib.hid hb
    clear hb
    obtain ⟨z, f, d5, hrv, hff, hml, hws⟩ := recv_left (d := { d3 with left := (r2 : Int) }) (m := r2) HD3.out.1 rfl HG0.out HS3.out
    have HFF := Lib.hid hff
    go_wp2_with fail
    refine (bag_recoverX HB.out (by show d3.ws.length ≤ _; rw [HD3.out.2.1]; simp) hrv).mono ?_
    rintro e w18 ⟨rfl, S18, hb⟩
    have HB := Lib.hid hb
    have hws' : d5.ws = (recAll d3.bl).take r2 := by rw [hws]; show d3.ws ++ _ = _; rw [HD3.out.2.1]; rfl
    have hml' : d5.ml = d3.bl := by rw [hml]; exact HD3.out.2.2
    have HL5 := Lib.hid (show d5.ws.length ≤ 256 by rw [hws']; have := recAll_le d3.bl; rw [List.length_take]; omega)
    have HC5 := Lib.hid (show d5.cut 100 = DS.of (laid d3.bl ((recAll d3.bl).take r2)) by unfold DS.cut; rw [hws', hml', List.take_take, Nat.min_eq_right (by have := HR2'.out; omega)])
    clear hb hws hml hws' hml' hrv hff
    go_wp2_with fail
    refine (bag_cut (n := 100) HB.out (by have := HL5.out; omega) (by omega)).mono ?_
    rintro e w19 ⟨k6, S6, rfl, hb⟩
    have HB := Lib.hid hb
    clear hb
    obtain ⟨d6, h6⟩ : ∃ d6, d6 = d5.cut 100 := ⟨_, rfl⟩
    rw [← h6] at HB
    rw [HC5.out] at h6
    have HQ6 := Lib.hid (show Quiet d6 by rw [h6]; exact of_quiet _)
    have HS6 := Lib.hid (show StS (r = 0) ((fullW l0).length ≤ r) DS.new.bl l0 d6.bl by rw [h6]; exact cut_st HG0.out HS3.out r2)
    have HW6 := Lib.hid (show d6.ws = [] by rw [h6]; rfl)
    clear h6
    obtain ⟨m, hm⟩ := recv_st HQ6.out HG0.out HS6.out
    go_wp2_with fail
    refine (bag_recover HB.out (by rw [HW6.out]; simp) hm).mono ?_
    rintro e wd ⟨rfl, Sd, hb⟩
    have HB := Lib.hid hb
    clear hb hm
    obtain ⟨d4, h4⟩ : ∃ d4, d4 = d6.rc := ⟨_, rfl⟩
    have HQ4 := Lib.hid (show Quiet d4 by rw [h4]; exact rc_quiet HQ6.out)
    have HS4 := Lib.hid (show _ by have := (rc_st HG0.out HS6.out); rw [← h4] at this; exact this)
    rw [← h4] at HB
    clear h4
    go_wp2_with fail
    refine (bag_free HB.out).mono ?_
    rintro e we ⟨rfl, hb, h64⟩
    have HB := Lib.hid hb
    clear hb
    go_wp2_with (refine wpList_var46 (by rfl) (by rfl) 19 (.tmp 90) (by rfl) (by rfl) (by rfl) _ h64 (by rfl) (by rfl) ?c3)
    case c3 =>
    intro wf hu hv
    have HB := Lib.hid (HB.out.newv hu hv)
    have hO : OldS DS.new.bl d4.bl → ∀ j, j < 255 → d4.fr j = DS.new.fr j := fun h => oldS_fr HQ4.out h (e := DS.new) ⟨rfl, rfl⟩ rfl
    have hW : NewS DS.new.bl l0 d4.bl → ∀ j, j < 255 → d4.fr j = laid DS.new.fr l0 j := fun h j hj => (newS_fr HQ4.out h HG0.out (e := DS.new) ⟨rfl, rfl⟩ rfl j hj).trans (with_fr (d := DS.new) ⟨rfl, rfl⟩ HG0.out (fun _ _ => rfl) j hj).symm
    obtain ⟨a, ha, hao⟩ := same46 h64 HV1.out
    obtain ⟨b, hb, hbo⟩ := same46 h64 HF2v.out
    have HA0 := Lib.hid (show r = 0 → a = true from fun h => hao (hO (HS4.out.1 h)))
    have HBE := Lib.hid (show E = 0 → b = true from fun h => hbo (hW (HS4.out.2.1 (HEL.out h))))
    have HAB := Lib.hid (show a = false → b = true from fun h => HS4.out.2.2.elim (fun h' => by rw [hao (hO h')] at h; cases h) (fun h' => hbo (hW h')))
    clear hao hbo hu hv hO hW
    have HR3 := Lib.hid (HB.out.v (we.heap.size, d4.fr) (by simp)).range
    generalize we.heap.size = g3 at *
    have HR1 := Lib.hid (HB.out.v (g1, DS.new.fr) (by simp)).range
    have HR2 := Lib.hid (HB.out.v (g2, laid DS.new.fr l0) (by simp)).range
    obtain ⟨F3, hF3⟩ : ∃ F3, F3 = flatV d4.fr := ⟨_, rfl⟩
    have HSZ3 := Lib.hid (show (Try.prog.info? 46).map (·.size) = some F3.length by rw [hF3, flatV_len h64]; exact size46)
    rw [← HF1.out] at HR1 ha
    rw [← HF2.out] at HR2 hb
    rw [← hF3] at HR3 ha hb
    have HA := Lib.hid ha
    have HBB := Lib.hid hb
    rw [← hF3]
    clear ha hb hF3 h64
    go_upto_region 26 with fail
    rcases HFF.out with rfl | rfl
    · rcases HE2.out with rfl | rfl
      · have e1 := HBE.out rfl
        subst e1
        by_cases h0 : r = 0
        · have e0 := HA0.out h0
          subst e0
          subst h0
          go_wp2_with (first | (refine wpList_load_midG (by rfl) 46 (.tmp 19) rfl g3 0 (by rfl) F3 _ HR3.out Try.underlying46 rfl HSZ3.out ?_) | (refine wpList_load_midG (by rfl) 46 (.tmp 9) rfl g1 0 (by rfl) F1 _ HR1.out Try.underlying46 rfl HSZ1.out ?_) | (refine wpList_load_midG (by rfl) 46 (.tmp 10) rfl g2 0 (by rfl) F2 _ HR2.out Try.underlying46 rfl HSZ2.out ?_) | (refine wpList_binG (by rfl) .eql 46 (.tmp 102) (.tmp 103) rfl F3.toArray F1.toArray (by rfl) (by rfl) Try.eqGuardType46 (HA.out _) ?_) | (refine wpList_binG (by rfl) .eql 46 (.tmp 106) (.tmp 107) rfl F3.toArray F2.toArray (by rfl) (by rfl) Try.eqGuardType46 (HBB.out _) ?_) | (refine wpList_binG (by rfl) .eql 46 (.tmp 115) (.tmp 116) rfl F3.toArray F2.toArray (by rfl) (by rfl) Try.eqGuardType46 (HBB.out _) ?_) | (refine wpList_binG (by rfl) .eql 46 (.tmp 124) (.tmp 125) rfl F3.toArray F1.toArray (by rfl) (by rfl) Try.eqGuardType46 (HA.out _) ?_) | fail)
          refine (known24_any _).mono ?_
          rintro e wz ⟨rfl, hA⟩
          have HB := Lib.hid (HB.out.q hA)
          go_wp2_with fail
          go_ret
          exact ⟨rfl, HB.out.u⟩
        · have r1 : decide ((0 : Int) < (r : Int)) = true := by simp; omega
          have r2 : (0 : Int) < (r : Int) := by omega
          cases a with
          | true =>
            go_wp2_with (first | (refine wpList_load_midG (by rfl) 46 (.tmp 19) rfl g3 0 (by rfl) F3 _ HR3.out Try.underlying46 rfl HSZ3.out ?_) | (refine wpList_load_midG (by rfl) 46 (.tmp 9) rfl g1 0 (by rfl) F1 _ HR1.out Try.underlying46 rfl HSZ1.out ?_) | (refine wpList_load_midG (by rfl) 46 (.tmp 10) rfl g2 0 (by rfl) F2 _ HR2.out Try.underlying46 rfl HSZ2.out ?_) | (refine wpList_binG (by rfl) .eql 46 (.tmp 102) (.tmp 103) rfl F3.toArray F1.toArray (by rfl) (by rfl) Try.eqGuardType46 (HA.out _) ?_) | (refine wpList_binG (by rfl) .eql 46 (.tmp 106) (.tmp 107) rfl F3.toArray F2.toArray (by rfl) (by rfl) Try.eqGuardType46 (HBB.out _) ?_) | (refine wpList_binG (by rfl) .eql 46 (.tmp 115) (.tmp 116) rfl F3.toArray F2.toArray (by rfl) (by rfl) Try.eqGuardType46 (HBB.out _) ?_) | (refine wpList_binG (by rfl) .eql 46 (.tmp 124) (.tmp 125) rfl F3.toArray F1.toArray (by rfl) (by rfl) Try.eqGuardType46 (HA.out _) ?_) | fail)
            refine (known24_any _).mono ?_
            rintro e wz ⟨rfl, hA⟩
            have HB := Lib.hid (HB.out.q hA)
            go_wp2_with fail
            go_ret
            exact ⟨rfl, HB.out.u⟩
          | false =>
            skip
            go_wp2_with (first | (refine wpList_load_midG (by rfl) 46 (.tmp 19) rfl g3 0 (by rfl) F3 _ HR3.out Try.underlying46 rfl HSZ3.out ?_) | (refine wpList_load_midG (by rfl) 46 (.tmp 9) rfl g1 0 (by rfl) F1 _ HR1.out Try.underlying46 rfl HSZ1.out ?_) | (refine wpList_load_midG (by rfl) 46 (.tmp 10) rfl g2 0 (by rfl) F2 _ HR2.out Try.underlying46 rfl HSZ2.out ?_) | (refine wpList_binG (by rfl) .eql 46 (.tmp 102) (.tmp 103) rfl F3.toArray F1.toArray (by rfl) (by rfl) Try.eqGuardType46 (HA.out _) ?_) | (refine wpList_binG (by rfl) .eql 46 (.tmp 106) (.tmp 107) rfl F3.toArray F2.toArray (by rfl) (by rfl) Try.eqGuardType46 (HBB.out _) ?_) | (refine wpList_binG (by rfl) .eql 46 (.tmp 115) (.tmp 116) rfl F3.toArray F2.toArray (by rfl) (by rfl) Try.eqGuardType46 (HBB.out _) ?_) | (refine wpList_binG (by rfl) .eql 46 (.tmp 124) (.tmp 125) rfl F3.toArray F1.toArray (by rfl) (by rfl) Try.eqGuardType46 (HA.out _) ?_) | fail)
            refine (known24_any _).mono ?_
            rintro e wz ⟨rfl, hA⟩
            have HB := Lib.hid (HB.out.q hA)
            go_wp2_with fail
            go_ret
            exact ⟨rfl, HB.out.u⟩
      · by_cases h0 : r = 0
        · have e0 := HA0.out h0
          subst e0
          subst h0
          go_wp2_with (first | (refine wpList_load_midG (by rfl) 46 (.tmp 19) rfl g3 0 (by rfl) F3 _ HR3.out Try.underlying46 rfl HSZ3.out ?_) | (refine wpList_load_midG (by rfl) 46 (.tmp 9) rfl g1 0 (by rfl) F1 _ HR1.out Try.underlying46 rfl HSZ1.out ?_) | (refine wpList_load_midG (by rfl) 46 (.tmp 10) rfl g2 0 (by rfl) F2 _ HR2.out Try.underlying46 rfl HSZ2.out ?_) | (refine wpList_binG (by rfl) .eql 46 (.tmp 102) (.tmp 103) rfl F3.toArray F1.toArray (by rfl) (by rfl) Try.eqGuardType46 (HA.out _) ?_) | (refine wpList_binG (by rfl) .eql 46 (.tmp 106) (.tmp 107) rfl F3.toArray F2.toArray (by rfl) (by rfl) Try.eqGuardType46 (HBB.out _) ?_) | (refine wpList_binG (by rfl) .eql 46 (.tmp 115) (.tmp 116) rfl F3.toArray F2.toArray (by rfl) (by rfl) Try.eqGuardType46 (HBB.out _) ?_) | (refine wpList_binG (by rfl) .eql 46 (.tmp 124) (.tmp 125) rfl F3.toArray F1.toArray (by rfl) (by rfl) Try.eqGuardType46 (HA.out _) ?_) | fail)
          refine (known24_any _).mono ?_
          rintro e wz ⟨rfl, hA⟩
          have HB := Lib.hid (HB.out.q hA)
          go_wp2_with fail
          go_ret
          exact ⟨rfl, HB.out.u⟩
        · have r1 : decide ((0 : Int) < (r : Int)) = true := by simp; omega
          have r2 : (0 : Int) < (r : Int) := by omega
          cases a with
          | true =>
            go_wp2_with (first | (refine wpList_load_midG (by rfl) 46 (.tmp 19) rfl g3 0 (by rfl) F3 _ HR3.out Try.underlying46 rfl HSZ3.out ?_) | (refine wpList_load_midG (by rfl) 46 (.tmp 9) rfl g1 0 (by rfl) F1 _ HR1.out Try.underlying46 rfl HSZ1.out ?_) | (refine wpList_load_midG (by rfl) 46 (.tmp 10) rfl g2 0 (by rfl) F2 _ HR2.out Try.underlying46 rfl HSZ2.out ?_) | (refine wpList_binG (by rfl) .eql 46 (.tmp 102) (.tmp 103) rfl F3.toArray F1.toArray (by rfl) (by rfl) Try.eqGuardType46 (HA.out _) ?_) | (refine wpList_binG (by rfl) .eql 46 (.tmp 106) (.tmp 107) rfl F3.toArray F2.toArray (by rfl) (by rfl) Try.eqGuardType46 (HBB.out _) ?_) | (refine wpList_binG (by rfl) .eql 46 (.tmp 115) (.tmp 116) rfl F3.toArray F2.toArray (by rfl) (by rfl) Try.eqGuardType46 (HBB.out _) ?_) | (refine wpList_binG (by rfl) .eql 46 (.tmp 124) (.tmp 125) rfl F3.toArray F1.toArray (by rfl) (by rfl) Try.eqGuardType46 (HA.out _) ?_) | fail)
            refine (known24_any _).mono ?_
            rintro e wz ⟨rfl, hA⟩
            have HB := Lib.hid (HB.out.q hA)
            go_wp2_with fail
            go_ret
            exact ⟨rfl, HB.out.u⟩
          | false =>
            have e1 := HAB.out rfl
            subst e1
            go_wp2_with (first | (refine wpList_load_midG (by rfl) 46 (.tmp 19) rfl g3 0 (by rfl) F3 _ HR3.out Try.underlying46 rfl HSZ3.out ?_) | (refine wpList_load_midG (by rfl) 46 (.tmp 9) rfl g1 0 (by rfl) F1 _ HR1.out Try.underlying46 rfl HSZ1.out ?_) | (refine wpList_load_midG (by rfl) 46 (.tmp 10) rfl g2 0 (by rfl) F2 _ HR2.out Try.underlying46 rfl HSZ2.out ?_) | (refine wpList_binG (by rfl) .eql 46 (.tmp 102) (.tmp 103) rfl F3.toArray F1.toArray (by rfl) (by rfl) Try.eqGuardType46 (HA.out _) ?_) | (refine wpList_binG (by rfl) .eql 46 (.tmp 106) (.tmp 107) rfl F3.toArray F2.toArray (by rfl) (by rfl) Try.eqGuardType46 (HBB.out _) ?_) | (refine wpList_binG (by rfl) .eql 46 (.tmp 115) (.tmp 116) rfl F3.toArray F2.toArray (by rfl) (by rfl) Try.eqGuardType46 (HBB.out _) ?_) | (refine wpList_binG (by rfl) .eql 46 (.tmp 124) (.tmp 125) rfl F3.toArray F1.toArray (by rfl) (by rfl) Try.eqGuardType46 (HA.out _) ?_) | fail)
            refine (known24_any _).mono ?_
            rintro e wz ⟨rfl, hA⟩
            have HB := Lib.hid (HB.out.q hA)
            go_wp2_with fail
            go_ret
            exact ⟨rfl, HB.out.u⟩
    · rcases HE2.out with rfl | rfl
      · have e1 := HBE.out rfl
        subst e1
        by_cases h0 : r = 0
        · have e0 := HA0.out h0
          subst e0
          subst h0
          go_wp2_with (first | (refine wpList_load_midG (by rfl) 46 (.tmp 19) rfl g3 0 (by rfl) F3 _ HR3.out Try.underlying46 rfl HSZ3.out ?_) | (refine wpList_load_midG (by rfl) 46 (.tmp 9) rfl g1 0 (by rfl) F1 _ HR1.out Try.underlying46 rfl HSZ1.out ?_) | (refine wpList_load_midG (by rfl) 46 (.tmp 10) rfl g2 0 (by rfl) F2 _ HR2.out Try.underlying46 rfl HSZ2.out ?_) | (refine wpList_binG (by rfl) .eql 46 (.tmp 102) (.tmp 103) rfl F3.toArray F1.toArray (by rfl) (by rfl) Try.eqGuardType46 (HA.out _) ?_) | (refine wpList_binG (by rfl) .eql 46 (.tmp 106) (.tmp 107) rfl F3.toArray F2.toArray (by rfl) (by rfl) Try.eqGuardType46 (HBB.out _) ?_) | (refine wpList_binG (by rfl) .eql 46 (.tmp 115) (.tmp 116) rfl F3.toArray F2.toArray (by rfl) (by rfl) Try.eqGuardType46 (HBB.out _) ?_) | (refine wpList_binG (by rfl) .eql 46 (.tmp 124) (.tmp 125) rfl F3.toArray F1.toArray (by rfl) (by rfl) Try.eqGuardType46 (HA.out _) ?_) | fail)
          refine (known24_any _).mono ?_
          rintro e wz ⟨rfl, hA⟩
          have HB := Lib.hid (HB.out.q hA)
          go_wp2_with fail
          go_ret
          exact ⟨rfl, HB.out.u⟩
        · have r1 : decide ((0 : Int) < (r : Int)) = true := by simp; omega
          have r2 : (0 : Int) < (r : Int) := by omega
          cases a with
          | true =>
            go_wp2_with (first | (refine wpList_load_midG (by rfl) 46 (.tmp 19) rfl g3 0 (by rfl) F3 _ HR3.out Try.underlying46 rfl HSZ3.out ?_) | (refine wpList_load_midG (by rfl) 46 (.tmp 9) rfl g1 0 (by rfl) F1 _ HR1.out Try.underlying46 rfl HSZ1.out ?_) | (refine wpList_load_midG (by rfl) 46 (.tmp 10) rfl g2 0 (by rfl) F2 _ HR2.out Try.underlying46 rfl HSZ2.out ?_) | (refine wpList_binG (by rfl) .eql 46 (.tmp 102) (.tmp 103) rfl F3.toArray F1.toArray (by rfl) (by rfl) Try.eqGuardType46 (HA.out _) ?_) | (refine wpList_binG (by rfl) .eql 46 (.tmp 106) (.tmp 107) rfl F3.toArray F2.toArray (by rfl) (by rfl) Try.eqGuardType46 (HBB.out _) ?_) | (refine wpList_binG (by rfl) .eql 46 (.tmp 115) (.tmp 116) rfl F3.toArray F2.toArray (by rfl) (by rfl) Try.eqGuardType46 (HBB.out _) ?_) | (refine wpList_binG (by rfl) .eql 46 (.tmp 124) (.tmp 125) rfl F3.toArray F1.toArray (by rfl) (by rfl) Try.eqGuardType46 (HA.out _) ?_) | fail)
            refine (known24_any _).mono ?_
            rintro e wz ⟨rfl, hA⟩
            have HB := Lib.hid (HB.out.q hA)
            go_wp2_with fail
            go_ret
            exact ⟨rfl, HB.out.u⟩
          | false =>
            skip
            go_wp2_with (first | (refine wpList_load_midG (by rfl) 46 (.tmp 19) rfl g3 0 (by rfl) F3 _ HR3.out Try.underlying46 rfl HSZ3.out ?_) | (refine wpList_load_midG (by rfl) 46 (.tmp 9) rfl g1 0 (by rfl) F1 _ HR1.out Try.underlying46 rfl HSZ1.out ?_) | (refine wpList_load_midG (by rfl) 46 (.tmp 10) rfl g2 0 (by rfl) F2 _ HR2.out Try.underlying46 rfl HSZ2.out ?_) | (refine wpList_binG (by rfl) .eql 46 (.tmp 102) (.tmp 103) rfl F3.toArray F1.toArray (by rfl) (by rfl) Try.eqGuardType46 (HA.out _) ?_) | (refine wpList_binG (by rfl) .eql 46 (.tmp 106) (.tmp 107) rfl F3.toArray F2.toArray (by rfl) (by rfl) Try.eqGuardType46 (HBB.out _) ?_) | (refine wpList_binG (by rfl) .eql 46 (.tmp 115) (.tmp 116) rfl F3.toArray F2.toArray (by rfl) (by rfl) Try.eqGuardType46 (HBB.out _) ?_) | (refine wpList_binG (by rfl) .eql 46 (.tmp 124) (.tmp 125) rfl F3.toArray F1.toArray (by rfl) (by rfl) Try.eqGuardType46 (HA.out _) ?_) | fail)
            refine (known24_any _).mono ?_
            rintro e wz ⟨rfl, hA⟩
            have HB := Lib.hid (HB.out.q hA)
            go_wp2_with fail
            go_ret
            exact ⟨rfl, HB.out.u⟩
      · by_cases h0 : r = 0
        · have e0 := HA0.out h0
          subst e0
          subst h0
          go_wp2_with (first | (refine wpList_load_midG (by rfl) 46 (.tmp 19) rfl g3 0 (by rfl) F3 _ HR3.out Try.underlying46 rfl HSZ3.out ?_) | (refine wpList_load_midG (by rfl) 46 (.tmp 9) rfl g1 0 (by rfl) F1 _ HR1.out Try.underlying46 rfl HSZ1.out ?_) | (refine wpList_load_midG (by rfl) 46 (.tmp 10) rfl g2 0 (by rfl) F2 _ HR2.out Try.underlying46 rfl HSZ2.out ?_) | (refine wpList_binG (by rfl) .eql 46 (.tmp 102) (.tmp 103) rfl F3.toArray F1.toArray (by rfl) (by rfl) Try.eqGuardType46 (HA.out _) ?_) | (refine wpList_binG (by rfl) .eql 46 (.tmp 106) (.tmp 107) rfl F3.toArray F2.toArray (by rfl) (by rfl) Try.eqGuardType46 (HBB.out _) ?_) | (refine wpList_binG (by rfl) .eql 46 (.tmp 115) (.tmp 116) rfl F3.toArray F2.toArray (by rfl) (by rfl) Try.eqGuardType46 (HBB.out _) ?_) | (refine wpList_binG (by rfl) .eql 46 (.tmp 124) (.tmp 125) rfl F3.toArray F1.toArray (by rfl) (by rfl) Try.eqGuardType46 (HA.out _) ?_) | fail)
          refine (known24_any _).mono ?_
          rintro e wz ⟨rfl, hA⟩
          have HB := Lib.hid (HB.out.q hA)
          go_wp2_with fail
          go_ret
          exact ⟨rfl, HB.out.u⟩
        · have r1 : decide ((0 : Int) < (r : Int)) = true := by simp; omega
          have r2 : (0 : Int) < (r : Int) := by omega
          cases a with
          | true =>
            go_wp2_with (first | (refine wpList_load_midG (by rfl) 46 (.tmp 19) rfl g3 0 (by rfl) F3 _ HR3.out Try.underlying46 rfl HSZ3.out ?_) | (refine wpList_load_midG (by rfl) 46 (.tmp 9) rfl g1 0 (by rfl) F1 _ HR1.out Try.underlying46 rfl HSZ1.out ?_) | (refine wpList_load_midG (by rfl) 46 (.tmp 10) rfl g2 0 (by rfl) F2 _ HR2.out Try.underlying46 rfl HSZ2.out ?_) | (refine wpList_binG (by rfl) .eql 46 (.tmp 102) (.tmp 103) rfl F3.toArray F1.toArray (by rfl) (by rfl) Try.eqGuardType46 (HA.out _) ?_) | (refine wpList_binG (by rfl) .eql 46 (.tmp 106) (.tmp 107) rfl F3.toArray F2.toArray (by rfl) (by rfl) Try.eqGuardType46 (HBB.out _) ?_) | (refine wpList_binG (by rfl) .eql 46 (.tmp 115) (.tmp 116) rfl F3.toArray F2.toArray (by rfl) (by rfl) Try.eqGuardType46 (HBB.out _) ?_) | (refine wpList_binG (by rfl) .eql 46 (.tmp 124) (.tmp 125) rfl F3.toArray F1.toArray (by rfl) (by rfl) Try.eqGuardType46 (HA.out _) ?_) | fail)
            refine (known24_any _).mono ?_
            rintro e wz ⟨rfl, hA⟩
            have HB := Lib.hid (HB.out.q hA)
            go_wp2_with fail
            go_ret
            exact ⟨rfl, HB.out.u⟩
          | false =>
            have e1 := HAB.out rfl
            subst e1
            go_wp2_with (first | (refine wpList_load_midG (by rfl) 46 (.tmp 19) rfl g3 0 (by rfl) F3 _ HR3.out Try.underlying46 rfl HSZ3.out ?_) | (refine wpList_load_midG (by rfl) 46 (.tmp 9) rfl g1 0 (by rfl) F1 _ HR1.out Try.underlying46 rfl HSZ1.out ?_) | (refine wpList_load_midG (by rfl) 46 (.tmp 10) rfl g2 0 (by rfl) F2 _ HR2.out Try.underlying46 rfl HSZ2.out ?_) | (refine wpList_binG (by rfl) .eql 46 (.tmp 102) (.tmp 103) rfl F3.toArray F1.toArray (by rfl) (by rfl) Try.eqGuardType46 (HA.out _) ?_) | (refine wpList_binG (by rfl) .eql 46 (.tmp 106) (.tmp 107) rfl F3.toArray F2.toArray (by rfl) (by rfl) Try.eqGuardType46 (HBB.out _) ?_) | (refine wpList_binG (by rfl) .eql 46 (.tmp 115) (.tmp 116) rfl F3.toArray F2.toArray (by rfl) (by rfl) Try.eqGuardType46 (HBB.out _) ?_) | (refine wpList_binG (by rfl) .eql 46 (.tmp 124) (.tmp 125) rfl F3.toArray F1.toArray (by rfl) (by rfl) Try.eqGuardType46 (HA.out _) ?_) | fail)
            refine (known24_any _).mono ?_
            rintro e wz ⟨rfl, hA⟩
            have HB := Lib.hid (HB.out.q hA)
            go_wp2_with fail
            go_ret
            exact ⟨rfl, HB.out.u⟩
    end Go.Proofs.Ytckgcfkahffibaa
