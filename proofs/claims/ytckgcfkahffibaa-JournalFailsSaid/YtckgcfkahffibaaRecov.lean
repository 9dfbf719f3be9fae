import Derived.Test.YtckgcfkahffibaaRec
namespace Go.Proofs.Ytckgcfkahffibaa
open Go.RowKit
set_option linter.unusedVariables false
set_option linter.unusedSimpArgs false
theorem may0_gone {d : DS} {i : Nat} (h : d.may i = 0) : d.gone = false := by
  unfold DS.may at h
  cases hg : d.gone with
  | false => rfl
  | true => rw [hg] at h; split at h <;> simp at h
theorem recW_prefix (f : Nat → List UInt8) (i : Nat) : ∀ n, i ≤ n → ∃ B, recW f n = recW f i ++ B
  | 0, h => ⟨[], by rw [show i = 0 by omega]; simp⟩
  | n + 1, h => by
    by_cases e : i = n + 1
    · exact ⟨[], by rw [e]; simp⟩
    · obtain ⟨B, hB⟩ := recW_prefix f i n (by omega)
      exact ⟨B ++ _, by rw [recW, hB, List.append_assoc]⟩
/-- Refused on the way: refused as a whole. -/
theorem all_fail {A B : List (Nat × List UInt8)} {d : DS} (h : (DS.all A d).1 ≠ 0) : DS.all (A ++ B) d = DS.all A d := by rw [all_append, if_neg h]
theorem recv_fail {d : DS} {i : Nat} (h0 : d.may 0 = 0) (hn : hb d.bl 0 ≤ 24) (hi : i ≤ hb d.bl 0) (h : (DS.all (recW d.bl i) d).1 ≠ 0) : d.recv = ((0, (DS.all (recW d.bl i) d).1), (DS.all (recW d.bl i) d).2) := by
  obtain ⟨B, hB⟩ := recW_prefix d.bl i _ hi
  have e : DS.all (recAll d.bl) d = DS.all (recW d.bl i) d := by
    unfold recAll; rw [hB, List.append_assoc, all_fail h]
  unfold DS.recv
  rw [if_neg (by omega), if_neg (by omega), e, if_neg h]
def RecP (S : Nat → Prop) (k : Nat) (r : (Int × Int) × DS) (w : World) (e : Ending) (w' : World) : Prop :=
  e = .returned (.tuple #[.int .i64 r.1.1, .int .i64 r.1.2]) ∧ ∃ S', Dsk w' k r.2 S' ∧ Upd S w w' ∧ ∀ j, S' j → S j ∨ w.heap.size ≤ j
theorem zero28' : ∀ w, (zeroValue 28).run Try.prog w = .ok (.agg (bytesV (one 0)).toArray) w := by
  obtain ⟨i0, hi, hz0, hz1, hz2⟩ := info_parts info28
  have e : (List.replicate 64 (Value.int .u8 0)).toArray = (bytesV (one 0)).toArray := by kernel_rfl
  rw [e] at hz0
  intro w
  simp [zeroValue, typeInfo, hi, hz0]
/-- The loop's state. -/
structure RecJ (w wr : World) (S S' : Nat → Prop) (k g4 i : Nat) (d : DS) : Prop where
  ok : (DS.all (recW d.bl i) d).1 = 0
  dd : Dsk wr k (DS.all (recW d.bl i) d).2 S'
  r : wr.rangeAt g4 0 (bytesV (d.bl 0))
  u : Upd S w wr
  f : ∀ j, S' j → S j ∨ w.heap.size ≤ j
  g : ¬ S' g4
  lt : g4 < wr.heap.size

namespace RecJ
variable {w wr wx : World} {S S' : Nat → Prop} {k g4 i : Nat} {d : DS}
theorem q (h : RecJ w wr S S' k g4 i d) (hu : Upd (fun _ => False) wr wx) : RecJ w wx S S' k g4 i d :=
  ⟨h.ok, h.dd.upd0 hu, range_upd h.r hu (fun h => h), h.u.trans hu (fun _ _ h => h.elim), h.f, h.g, Nat.lt_of_lt_of_le h.lt hu.size⟩
theorem wu (h : RecJ w wr S S' k g4 i d) (hu : Upd S' wr wx) : Upd S w wx := h.u.trans hu (fun j hj hs => (h.f j hs).elim (fun h => h) (fun h => by omega))
theorem wf {S2 : Nat → Prop} (h : RecJ w wr S S' k g4 i d) (hs : ∀ j, S2 j → S' j ∨ wr.heap.size ≤ j) : ∀ j, S2 j → S j ∨ w.heap.size ≤ j := fun j hj => (hs j hj).elim (h.f j) (fun hx => .inr (Nat.le_trans h.u.size hx))
theorem stp {S2 : Nat → Prop} {n : Nat} (h : RecJ w wr S S' k g4 i d) (hok : (DS.all (recW d.bl n) d).1 = 0) (hd : Dsk wx k (DS.all (recW d.bl n) d).2 S2) (hu : Upd S' wr wx) (hs : ∀ j, S2 j → S' j ∨ wr.heap.size ≤ j) : RecJ w wx S S2 k g4 n d :=
  ⟨hok, hd, range_upd h.r hu h.g, h.wu hu, h.wf hs, fun hg => (hs g4 hg).elim h.g (fun hx => by have := h.lt; omega), Nat.lt_of_lt_of_le h.lt hu.size⟩
theorem skip {n : Nat} (h : RecJ w wr S S' k g4 i d) (he : recW d.bl n = recW d.bl i) : RecJ w wr S S' k g4 n d := ⟨by rw [he]; exact h.ok, by rw [he]; exact h.dd, h.r, h.u, h.f, h.g, h.lt⟩
end RecJ
theorem byte_at {w : World} {g : Nat} {f : Nat → List UInt8} (h : w.rangeAt g 0 (bytesV (f 0))) (hl : (f 0).length = 64) (i : Nat) (hi : i < 64) : w.cell? ⟨g, i, none⟩ = some (.int .u8 (hb f i : Nat)) := by
  have := h i (byteV (f 0)[i]) (bytesV_get _ _ (by omega))
  rw [Nat.zero_add] at this
  rw [this]
  unfold hb byteV
  rw [List.getElem?_eq_getElem (by omega)]
  rfl
theorem results_tmp2 {P : Program} {fn : Func} {p q : Tmp} (h : fn.results = #[.tmp p, .tmp q]) (tmps : Array Value) (w : World) : (results fn tmps).run P w = .ok (.tuple #[tmps.getD p undef, tmps.getD q undef]) w := by
  simp [results, h]
set_option maxHeartbeats 2000000 in
set_option maxRecDepth 100000 in
theorem recover_dsk (k : Nat) (d : DS) (S : Nat → Prop) (w : World) (h : Dsk w k d S) (hn : d.ws.length ≤ 900000) :
    Calls Try.prog 24 #[.pointer (some ⟨k, 0, none⟩)] w (RecP S k d.recv w) := by
  have H := Lib.hid h
  have HN := Lib.hid hn
  clear h hn
  by_cases h0 : d.may 0 = 0
  · have hgone := may0_gone (i := 0) h0
    have hz28 := zero28'
    have hrd : d.rd 0 = d.bl 0 := by unfold DS.rd; rw [if_pos h0]; rfl
    have hl0 := H.out.bl_len 0 (by omega)
    have H0 := Lib.hid h0
    have HG := Lib.hid hgone
    have HL0 := Lib.hid hl0
    have HB0 := Lib.hid hrd
    clear h0 hgone hrd hl0
    go_enter Try.func24, Try.ntmps24
    go_wp2_with fail
    refine (read_dsk k d S 0 w H.out).mono ?_
    rw [HB0.out, H0.out]
    rintro e w1 ⟨rfl, hu⟩
    have HD1 := Lib.hid (H.out.upd0 hu)
    have HU1 := Lib.hid hu
    clear hu
    go_wp2_with (refine wpList_var28 (by rfl) (by rfl) 4 (.tmp 17) (by rfl) (by rfl) (by rfl) (d.bl 0) HL0.out (by rfl) (by rfl) ?c1)
    case c1 =>
    intro w2 hu hr
    have HD2 := Lib.hid (HD1.out.upd0 hu)
    have HU2 := Lib.hid (HU1.out.trans' hu)
    have HR2 := Lib.hid hr
    have hlt4 : w1.heap.size < w2.heap.size := by
      have h0 := HL0.out
      exact World.block_lt_of_cell? _ _ (hr 0 _ (bytesV_get _ 0 (by omega)))
    have HLT := Lib.hid hlt4
    have hgs : ¬ S w1.heap.size := fun h => by have := HD1.out.lt _ h; omega
    have HGS := Lib.hid hgs
    generalize w1.heap.size = g4 at *
    have c0 : w2.cell? ⟨g4, 0, none⟩ = some (.int .u8 (hb d.bl 0 : Nat)) := byte_at hr HL0.out 0 (by omega)
    have HNn := Lib.hid (show hb d.bl 0 < 256 from UInt8.toNat_lt _)
    obtain ⟨n, hnn⟩ : ∃ n, n = hb d.bl 0 := ⟨_, rfl⟩
    rw [← hnn] at c0
    have hn256 : n < 256 := by rw [hnn]; exact HNn.out
    have HNN := Lib.hid hnn
    clear hu hr hgs hnn hlt4
    by_cases h24 : 24 < n
    · have b1 : (24 : Int) < (n : Int) := by omega
      have HR := Lib.hid (show d.recv = ((0, 0), d) by unfold DS.recv; rw [if_neg (by have := H0.out; omega), if_pos (by have := HNN.out; omega)])
      clear h24
      go_wp2
      refine bodyPost_ret (results_tmp2 (p := 2) (q := 3) rfl _ _) rfl ?_
      rw [HR.out]
      exact ⟨rfl, S, HD2.out, HU2.out.mono (fun _ _ h => h.elim), fun j hj => .inl hj⟩
    · have b1 : ¬ ((24 : Int) < (n : Int)) := by omega
      have hn24 : n ≤ 24 := by omega
      have HJ0 := Lib.hid (show RecJ w w2 S S k g4 0 d from ⟨rfl, HD2.out, HR2.out, HU2.out.mono (fun _ _ h => h.elim), fun j hj => .inl hj, HGS.out, HLT.out⟩)
      clear h24
      go_wp2_with fail
      go_loopw [28] (fun i wr => ∃ (q : Nat) (S' : Nat → Prop), i = .int .i64 q ∧ q ≤ n ∧ RecJ w wr S S' k g4 q d) (fun i _ => n - (intOf i).toNat)
      case atStart => exact ⟨0, S, rfl, Nat.zero_le _, HJ0.out⟩
      case round =>
        obtain ⟨q, S1, rfl, hq, hj⟩ := hrel
        have HJ := Lib.hid hj
        clear hj
        by_cases hlt : q < n
        · have d1 : (q : Int) < (n : Int) := by omega
          have c1 : wr.cell? ⟨g4, 1 + q, none⟩ = some (.int .u8 (hb d.bl (q + 1) : Nat)) := by rw [Nat.add_comm 1 q]; exact byte_at HJ.out.r HL0.out (q + 1) (by omega)
          obtain ⟨at_, hat⟩ : ∃ at_, at_ = hb d.bl (q + 1) := ⟨_, rfl⟩
          rw [← hat] at c1
          have hat256 : at_ < 256 := by rw [hat]; exact UInt8.toNat_lt _
          have HAT := Lib.hid hat
          have ecast : ((q + 1 : Nat) : Int) = 1 + (q : Int) := by omega
          have hr := Dsk.gone_all (i := q + 1) HJ.out.ok (fun x hx => (recW_at _ _ x hx).1) (by omega) HG.out
          rw [ecast] at hr
          have HRM := Lib.hid hr.1
          have HRR := Lib.hid hr.2
          have HBL := Lib.hid (H.out.bl_len (q + 1) (by omega))
          have d2 : q + 1 ≤ n := by omega
          clear hlt hat hr hq ecast
          go_wp2_with fail
          refine (read_dsk k _ S1 (1 + (q : Int)) wr HJ.out.dd).mono ?_
          rw [HRM.out, HRR.out]
          rintro e w3 ⟨rfl, hu⟩
          have HJ3 := Lib.hid (HJ.out.q hu)
          clear hu c1
          go_wp2_with (refine wpList_var28 (by rfl) (by rfl) 9 (.tmp 41) (by rfl) (by rfl) (by rfl) (d.bl (q + 1)) HBL.out (by rfl) (by rfl) ?c1)
          case c1 =>
          intro w4 hu hr9
          have HJ4 := Lib.hid (HJ3.out.q hu)
          clear hu
          generalize w3.heap.size = g9 at *
          go_wp2_with fail
          refine (free_any (at_ : Int) w4).mono ?_
          rintro e w4 ⟨rfl, rfl⟩
          by_cases hfr : (25 : Int) ≤ (at_ : Int) ∧ (at_ : Int) < 255
          · have hif : isFree (hb d.bl (q + 1)) = true := by
              unfold isFree; rw [← HAT.out]; exact decide_eq_true ⟨by omega, by omega⟩
            have hstep : DS.all (recW d.bl (q + 1)) d = (DS.all (recW d.bl q) d).2.wr at_ (d.bl (q + 1)) := by
              rw [recW, if_pos hif, all_snoc _ _ _ HJ.out.ok, ← HAT.out]
            have hwsl : (DS.all (recW d.bl q) d).2.ws.length ≤ 1000000 := by
              rw [(all_zero _ _ HJ.out.ok).2.1, List.length_append]
              have := recW_len d.bl q
              have := HN.out
              omega
            have HST := Lib.hid hstep
            have HWS := Lib.hid hwsl
            have HSZ9 := Lib.hid (show (Try.prog.info? 28).map (·.size) = some (bytesV (d.bl (q + 1))).length by rw [bytesV_length, HBL.out]; exact size28)
            have HR9 := Lib.hid hr9
            have hd : decide ((25 : Int) ≤ (at_ : Int) ∧ (at_ : Int) < 255) = true := by simp only [hfr, and_self, decide_true]
            rw [hd]
            clear hfr hif hstep hwsl hr9 hd
            go_wp2_with (refine wpList_load_mid rfl 28 (.tmp 9) rfl g9 0 (by rfl) (bytesV (d.bl (q + 1))) _ HR9.out Try.underlying28 rfl HSZ9.out ?c1)
            refine (write_dsk k _ S1 (at_ : Int) (d.bl (q + 1)) w4 HJ4.out.dd HBL.out HWS.out).mono ?_
            rw [← HST.out]
            rintro e w5 ⟨rfl, S5, hd, hA, hs⟩
            by_cases hok : (DS.all (recW d.bl (q + 1)) d).1 = 0
            · have HJ5 := Lib.hid (HJ4.out.stp hok hd hA hs)
              have HOK := Lib.hid hok
              rw [hok]
              clear hd hA hs hok
              go_wp2_with fail
              go_roundw
              case rel => exact ⟨q + 1, S5, by go_num, d2, HJ5.out⟩
              case measure => simp [intOf]; omega
            · have HREC := Lib.hid (recv_fail H0.out (by rw [← HNN.out]; exact hn24) (by rw [← HNN.out]; exact d2) hok)
              have HFIN := Lib.hid (show Dsk w5 k (DS.all (recW d.bl (q + 1)) d).2 S5 ∧ Upd S w w5 ∧ ∀ j, S5 j → S j ∨ w.heap.size ≤ j from ⟨hd, HJ4.out.wu hA, HJ4.out.wf hs⟩)
              generalize DS.all (recW d.bl (q + 1)) d = R at *
              obtain ⟨er, dr⟩ := R
              simp only at hok HREC HFIN ⊢
              have hne : ¬ (er = 0) := hok
              clear hd hA hs HST
              go_wp2_with fail
              refine bodyPost_ret (results_tmp2 (p := 2) (q := 3) rfl _ _) rfl ?_
              rw [HREC.out]
              exact ⟨rfl, S5, HFIN.out⟩
          · have hif : ¬ (isFree (hb d.bl (q + 1)) = true) := by
              unfold isFree; rw [← HAT.out]; intro h; have := of_decide_eq_true h; exact hfr ⟨by omega, by omega⟩
            have hstep : recW d.bl (q + 1) = recW d.bl q := by rw [recW, if_neg hif, List.append_nil]
            have HJ5 := Lib.hid (HJ4.out.skip hstep)
            have hd : decide ((25 : Int) ≤ (at_ : Int) ∧ (at_ : Int) < 255) = false := decide_eq_false hfr
            rw [hd]
            clear hfr hif hstep hr9 hd
            go_wp2_with fail
            go_roundw
            case rel => exact ⟨q + 1, S1, by go_num, d2, HJ5.out⟩
            case measure => simp [intOf]; omega
        · have hqn : q = n := by omega
          subst hqn
          have d1 : ¬ ((q : Int) < (q : Int)) := by omega
          by_cases hq0 : q = 0
          · subst hq0
            have HREC := Lib.hid (show d.recv = ((0, 0), d) by
              have e : recAll d.bl = [] := by unfold recAll; rw [← HNN.out]; rfl
              unfold DS.recv
              rw [if_neg (by have := H0.out; omega), if_neg (by rw [← HNN.out]; omega), e]
              have h := HNN.out
              simp [DS.all, ← h])
            clear hlt hq
            go_wp2_with fail
            refine bodyPost_ret (results_tmp2 (p := 2) (q := 3) rfl _ _) rfl ?_
            rw [HREC.out]
            exact ⟨rfl, S1, HJ.out.dd, HJ.out.u, HJ.out.f⟩
          · have b2 : (0 : Int) < (q : Int) := by omega
            have e : recAll d.bl = recW d.bl q ++ [(0, one 0)] := by unfold recAll; rw [← HNN.out, if_pos (by omega)]
            have hst : DS.all (recAll d.bl) d = (DS.all (recW d.bl q) d).2.wr ((0 : Nat) : Int) (one 0) := by rw [e, all_snoc _ _ _ HJ.out.ok]
            have HST := Lib.hid hst
            have HWS := Lib.hid (show (DS.all (recW d.bl q) d).2.ws.length ≤ 1000000 by
              rw [(all_zero _ _ HJ.out.ok).2.1, List.length_append]
              have := recW_len d.bl q
              have := HN.out
              omega)
            clear hlt hq hq0 e hst
            go_wp2_with fail
            refine (write_dsk k _ S1 ((0 : Nat) : Int) (one 0) wr HJ.out.dd (one_len 0) HWS.out).mono ?_
            rw [← HST.out]
            rintro e w5 ⟨rfl, S5, hd, hA, hs⟩
            have HFIN := Lib.hid (show Dsk w5 k (DS.all (recAll d.bl) d).2 S5 ∧ Upd S w w5 ∧ ∀ j, S5 j → S j ∨ w.heap.size ≤ j from ⟨hd, HJ.out.wu hA, HJ.out.wf hs⟩)
            have HREC := Lib.hid (show d.recv = if (DS.all (recAll d.bl) d).1 = 0 then ((((q : Nat) : Int), 0), (DS.all (recAll d.bl) d).2) else ((0, (DS.all (recAll d.bl) d).1), (DS.all (recAll d.bl) d).2) by
              unfold DS.recv
              rw [if_neg (by have := H0.out; omega), if_neg (by rw [← HNN.out]; omega), ← HNN.out])
            generalize DS.all (recAll d.bl) d = R at *
            obtain ⟨er, dr⟩ := R
            simp only at HREC HFIN ⊢
            clear hd hA hs HST
            by_cases hok : er = 0
            · subst hok
              go_wp2_with fail
              refine bodyPost_ret (results_tmp2 (p := 2) (q := 3) rfl _ _) rfl ?_
              rw [HREC.out, if_pos trivial]
              exact ⟨rfl, S5, HFIN.out⟩
            · go_wp2_with fail
              refine bodyPost_ret (results_tmp2 (p := 2) (q := 3) rfl _ _) rfl ?_
              rw [HREC.out, if_neg hok]
              exact ⟨rfl, S5, HFIN.out⟩
  · have HREC := Lib.hid (show d.recv = ((0, d.may 0), d) by unfold DS.recv; rw [if_pos h0])
    obtain ⟨L, hrd, hll⟩ : ∃ L, d.rd 0 = L ∧ L.length = 64 := ⟨one 0, by unfold DS.rd; rw [if_neg h0], one_len 0⟩
    have HRD := Lib.hid hrd
    have HLL := Lib.hid hll
    clear hrd hll
    generalize hm : d.may 0 = m at *
    have HM := Lib.hid hm
    have hmb : (m != 0) = true := by simp [h0]
    clear hm
    go_enter Try.func24, Try.ntmps24
    go_wp2_with fail
    refine (read_dsk k d S 0 w H.out).mono ?_
    rw [HRD.out, HM.out]
    rintro e w1 ⟨rfl, hu⟩
    have HD1 := Lib.hid (H.out.upd0 hu)
    have HU1 := Lib.hid hu
    clear hu
    go_wp2_with (refine wpList_var28 (by rfl) (by rfl) 4 (.tmp 17) (by rfl) (by rfl) (by rfl) L HLL.out (by rfl) (by rfl) ?c7)
    case c7 =>
    intro w2 hu hr
    have HD2 := Lib.hid (HD1.out.upd0 hu)
    have HU2 := Lib.hid (HU1.out.trans' hu)
    clear hu hr
    go_wp2_with fail
    refine bodyPost_ret (results_tmp2 (p := 2) (q := 3) rfl _ _) rfl ?_
    rw [HREC.out]
    exact ⟨rfl, S, HD2.out, HU2.out.mono (fun _ _ h => h.elim), fun j hj => .inl hj⟩
end Go.Proofs.Ytckgcfkahffibaa
