import Derived.Test.YtbpeoclhabgcgaaCanon
import Derived.Test.YtbpeoclhabgcgaaBook
import Derived.Deep.RegionHeld3
import Derived.Deep.RegionWith
import Derived.Deep.DeepCutAuto
import Derived.Deep.CutBlock
namespace Go.Proofs.Ytbpeoclhabgcgaa
open Go.RowKit
set_option linter.unusedVariables false
set_option linter.unusedSimpArgs false

theorem wrapI64 (n : Int) : IntKind.i64.wrap n = wrap64 n := by
  simp only [IntKind.wrap, IntKind.bits, IntKind.signed, wrap64]
  simp
  omega
theorem three_steps (pre rest : List UInt8) (x : PartV) (h : x.ok) (ht : x.text.size ≤ 1048576) :
    ∃ p1 p2, RS.number ⟨pre ++ (encP x ++ rest), pre.length, 0, 0⟩ maxU = (⟨pre ++ (encP x ++ rest), p1, 0, 0⟩, x.n.toNat) ∧
      RS.signed ⟨pre ++ (encP x ++ rest), p1, 0, 0⟩ = (⟨pre ++ (encP x ++ rest), p2, 0, 0⟩, wrap64 x.n) ∧
      RS.text ⟨pre ++ (encP x ++ rest), p2, 0, 0⟩ (x.text.size : Int) = (⟨pre ++ (encP x ++ rest), (pre ++ encP x).length, 0, 0⟩, x.text.data.toList) := by
  obtain ⟨_, _, _, _, ⟨n0, n1⟩, _⟩ := h
  have hw : -9223372036854775808 ≤ wrap64 x.n ∧ wrap64 x.n ≤ 9223372036854775807 := by unfold wrap64; omega
  obtain ⟨z0, z1⟩ := zig_u64 _ hw.1 hw.2
  have e0 : pre ++ (encP x ++ rest) = pre ++ (encN x.n.toNat ++ (encN (zig (wrap64 x.n)).toNat ++ (encN x.text.size ++ (x.text.data.toList ++ rest)))) := by simp [encP]
  have e1 : pre ++ (encP x ++ rest) = (pre ++ encN x.n.toNat) ++ (encN (zig (wrap64 x.n)).toNat ++ (encN x.text.size ++ (x.text.data.toList ++ rest))) := by simp [encP]
  have e2 : pre ++ (encP x ++ rest) = (pre ++ encN x.n.toNat ++ encN (zig (wrap64 x.n)).toNat) ++ (encN x.text.size ++ (x.text.data.toList ++ rest)) := by simp [encP]
  refine ⟨(pre ++ encN x.n.toNat).length, (pre ++ encN x.n.toNat ++ encN (zig (wrap64 x.n)).toNat).length, ?_, ?_, ?_⟩
  · rw [e0, number_enc _ _ _ _ (by omega), if_neg (by unfold maxU; omega), List.length_append]
  · rw [e1]
    unfold RS.signed
    rw [number_enc _ _ _ _ (by omega), if_neg (by unfold maxU; omega)]
    simp only [unzig_zig, List.length_append]
  · rw [e2, text_enc x.text _ rest (x.text.size : Int) (by omega), if_neg (by omega)]
    have hl : x.text.data.toList.length = x.text.size := Array.length_toList
    simp only [encP, List.length_append, hl, Prod.mk.injEq, RS.mk.injEq, and_true, true_and]
    omega

structure BW (w0 w : World) (a : Nat) (vW : Value) (m : List UInt8) : Prop where
  wr : Wr w a vW m
  na : w0.heap.size ≤ a
  upd : Upd (fun _ => False) w0 w
theorem BW.one {w0 w w1 : World} {a : Nat} {vW : Value} {m m' : List UInt8} (h : BW w0 w a vW m) (hp : WrPost a vW m' w w1) : ∃ vW', BW w0 w1 a vW' m' := by
  obtain ⟨v', h1, h2, h3⟩ := hp
  refine ⟨v', h1, h.na, h.upd.trans h2 (fun j hj hs => ?_)⟩
  have := h.na
  rcases hs with rfl | hs
  · omega
  · have := (h.wr.own.lt j hs).1; omega
structure BR (w0 w : World) (a : Nat) (v : Value) (r : RS) : Prop where
  rd : Rd w a v r
  na : w0.heap.size ≤ a
  upd : Upd (fun _ => False) w0 w
theorem BR.one {w0 w w1 : World} {a : Nat} {v : Value} {r r' : RS} (h : BR w0 w a v r) (hp : RdPost a v r' w w1) : BR w0 w1 a v r' :=
  ⟨hp.1, h.na, h.upd.trans hp.2 (fun j hj hs => by have := h.na; omega)⟩
theorem BR.none {w0 w w1 : World} {a : Nat} {v : Value} {r : RS} (h : BR w0 w a v r) (hu : Upd (fun _ => False) w w1) : BR w0 w1 a v r :=
  ⟨h.rd.upd hu (fun _ _ _ h => h), h.na, h.upd.trans' hu⟩

set_option maxHeartbeats 2000000 in
set_option maxRecDepth 100000 in
theorem back_any (u b : Value) (L : List PartV) (lb : List UInt8) (w : World) (hp : Parts w u L) (hT : ∀ x ∈ L, x.text.size ≤ 1048576) (hb : Bytes w b lb) (hl : lb.length ≤ 140737488351232) :
    Calls Try.prog 10 #[u, b] w (TrueP w) := by
  have HP0 := Lib.hid hp
  have HT := Lib.hid hT
  have HB := Lib.hid hb
  obtain ⟨ao, cap, rfl, hm, _⟩ := hp
  obtain ⟨aob, capb, rfl, hcb, _⟩ := hb
  have HCB := Lib.hid hcb
  have hmm : L.length ≤ 9223372036854775807 := by unfold maxLen at hm; exact hm
  clear hm hT
  go_enter Try.func10, Try.ntmps10
  go_wp2_with fail
  refine (newWriter_any _).mono ?_
  rintro e w1 ⟨a, rfl, ha, hw, hu⟩
  have HW0 : Hid (BW w w1 a (.slice none 0 0) []) := ⟨hw, ha, hu⟩
  clear hw hu ha
  go_upto_block 0 with fail
  obtain ⟨n, hn⟩ : ∃ n, n = min L.length 30 := ⟨_, rfl⟩
  have HN := Lib.hid hn
  clear hn
  go_cut [6] (fun s6 wx => ∃ vW, (encAll (L.take n)).length ≤ 31458180 ∧ BW w wx a vW (encAll (L.take n)))
  case first =>
    go_wp2_with fail
    go_loopw [6] (fun i wr => ∃ (k : Nat) (vW : Value), i = .int .i64 k ∧ k ≤ 30 ∧ k ≤ L.length ∧ (encAll (L.take k)).length ≤ k * 1048606 ∧ BW w wr a vW (encAll (L.take k))) (fun i _ => 30 - (intOf i).toNat)
    case atStart => exact ⟨0, _, rfl, by omega, by omega, by simp [encAll], HW0.out⟩
    case round =>
      obtain ⟨k, vW, rfl, hk30, hkL, hml, hww⟩ := hrel
      have HWr := Lib.hid hww
      clear hww
      by_cases hlt : k < L.length
      · by_cases hk : k < 30
        · obtain ⟨bo, of, rfl, hpa⟩ : ∃ bo of, ao = some ⟨bo, of, none⟩ ∧ PartAt w bo (of + k * 4) L[k] := by
            obtain ⟨ao', cap', hv, _, hh⟩ := HP0.out
            simp only [Value.slice.injEq] at hv
            obtain ⟨rfl, _, rfl⟩ := hv
            rcases hh with rfl | ⟨bo, of, rfl, hc⟩
            · simp at hlt
            · exact ⟨bo, of, rfl, hc k hlt⟩
          have hts := HT.out L[k] (List.getElem_mem hlt)
          have HPB := Lib.hid hpa
          have hpr := hpa.upd HWr.out.upd (fun h => h)
          have HSU : Hid (encAll (L.take (k + 1)) = encAll (L.take k) ++ encP L[k]) := encAll_succ L k hlt
          generalize L[k] = x at *
          have hle := encP_len x hpa.ok hts
          obtain ⟨⟨_, _, m0, m1, ⟨n0, n1⟩, _⟩, p0, p1, p2, p3⟩ := hpr
          have HLE : Hid ((encAll (L.take (k + 1))).length ≤ (k + 1) * 1048606) := by
            show _ ≤ _
            rw [HSU.out, List.length_append]; omega
          have hml2 : (encAll (L.take k)).length ≤ 1048606 * 30 := by omega
          have HE1 := Lib.hid (encN_u64 (n := x.n) ⟨n0, n1⟩)
          have hs : -9223372036854775808 ≤ wrap64 x.n ∧ wrap64 x.n ≤ 9223372036854775807 := by unfold wrap64; omega
          have HE2 := Lib.hid (encN_u64 (zig_u64 _ hs.1 hs.2))
          have HS := Lib.hid hs
          clear hpa hml hle hs
          generalize encAll (L.take k) = m at *
          go_wp2_with fail
          refine (number_any a vW m x.n _ HWr.out.wr ⟨n0, n1⟩ (by omega)).mono ?_
          rintro e wA ⟨rfl, hpA⟩
          obtain ⟨vWA, hwA⟩ := HWr.out.one hpA
          have HWA := Lib.hid hwA
          obtain ⟨_, p0, p1, p2, p3⟩ := HPB.out.upd hwA.upd (fun h => h)
          clear hpA hwA
          go_wp2_with fail
          refine (wsigned_any a vWA _ _ _ HWA.out.wr HS.out (by have := HE1.out; rw [List.length_append]; omega)).mono ?_
          rintro e wB ⟨rfl, hpB⟩
          obtain ⟨vWB, hwB⟩ := HWA.out.one hpB
          have HWB := Lib.hid hwB
          obtain ⟨_, p0, p1, p2, p3⟩ := HPB.out.upd hwB.upd (fun h => h)
          clear hpB hwB
          go_wp2_with fail
          refine (wtext_any a vWB x.text _ _ HWB.out.wr (by have := HE1.out; have := HE2.out; rw [List.length_append, List.length_append]; omega)).mono ?_
          rintro e wC ⟨rfl, hpC⟩
          obtain ⟨vWC, hwC⟩ := HWB.out.one hpC
          have HWC : Hid (BW w wC a vWC (encAll (L.take (k + 1)))) := by
            show BW _ _ _ _ _
            rw [HSU.out]
            simpa [encP, List.append_assoc] using hwC
          clear hpC hwC p0 p1 p2 p3
          go_wp2_with fail
          go_roundw
          case rel => exact ⟨k + 1, _, by go_num, by omega, by omega, HLE.out, HWC.out⟩
          case measure => simp [intOf]; omega
        · have f1 : decide (k < L.length) = true := by simp [hlt]
          have f2 : decide ((k : Int) < 30) = false := by simp; omega
          have HKN : Hid (k = n) := by have := HN.out; show _ = _; omega
          have HLN : Hid ((encAll (L.take n)).length ≤ 31458180) := by show _ ≤ _; rw [← HKN.out]; omega
          clear hlt hk
          go_wp2_with fail
          go_meet
          exact ⟨_, HLN.out, by rw [← HKN.out]; exact HWr.out⟩
      · have f1 : decide (k < L.length) = false := by simp; omega
        have HKN : Hid (k = n) := by have := HN.out; show _ = _; omega
        have HLN : Hid ((encAll (L.take n)).length ≤ 31458180) := by show _ ≤ _; rw [← HKN.out]; omega
        clear hlt
        go_wp2_with fail
        go_meet
        exact ⟨_, HLN.out, by rw [← HKN.out]; exact HWr.out⟩
  case rest =>
  obtain ⟨vW, hln, hwn⟩ := hcut
  have HWN := Lib.hid hwn
  have HLN := Lib.hid hln
  have hnL : n ≤ L.length := by have := HN.out; omega
  have hn30 : n ≤ 30 := by have := HN.out; omega
  have HSP : Hid (∀ k (h : k < n), ∃ rest, encAll (L.take n) = encAll (L.take k) ++ (encP L[k] ++ rest)) := by
    intro k h
    obtain ⟨rest, hr⟩ := encAll_split (L.take n) k (by rw [List.length_take]; omega)
    refine ⟨rest, ?_⟩
    rw [hr, List.take_take, List.getElem_take]
    congr 3
    omega
  clear hwn hln
  generalize hle : encAll (L.take n) = le at *
  have HLE := Lib.hid hle
  clear hle
  go_wp2_with fail
  refine (done_any a vW le _ HWN.out.wr (by have := HLN.out; omega)).mono ?_
  rintro e w2 ⟨vD, rfl, hoD, huD⟩
  have HOD := Lib.hid hoD
  have HUD := Lib.hid (HWN.out.upd.trans' huD)
  clear hoD huD
  go_wp2_with fail
  refine (newReader_any vD le _ (Bytes_own HOD.out) (by have := HLN.out; omega)).mono ?_
  rintro e w3 ⟨a2, vs, rfl, ha2, hvs, hr, hu3⟩
  have HR3 : Hid (BR w w3 a2 vs ⟨le, 0, 0, 0⟩) := ⟨hr, Nat.le_trans HUD.out.size ha2, HUD.out.trans' hu3⟩
  clear ha2 hvs hr hu3
  go_upto_block 2 with fail
  go_cut [8] (fun s8 wx => BR w wx a2 vs ⟨le, le.length, 0, 0⟩)
  case first =>
    go_wp2_with fail
    go_loopw [8] (fun i wr => ∃ (k : Nat), i = .int .i64 k ∧ k ≤ n ∧ BR w wr a2 vs ⟨le, (encAll (L.take k)).length, 0, 0⟩) (fun i _ => 30 - (intOf i).toNat)
    case atStart => exact ⟨0, rfl, Nat.zero_le _, HR3.out⟩
    case round =>
      obtain ⟨k, rfl, hkn, hrr⟩ := hrel
      have HRr := Lib.hid hrr
      clear hrr
      by_cases hk : k < n
      · have hlt : k < L.length := by omega
        have hk3 : k < 30 := by omega
        obtain ⟨bo, of, rfl, hpa⟩ : ∃ bo of, ao = some ⟨bo, of, none⟩ ∧ PartAt w bo (of + k * 4) L[k] := by
          obtain ⟨ao', cap', hv, _, hh⟩ := HP0.out
          simp only [Value.slice.injEq] at hv
          obtain ⟨rfl, _, rfl⟩ := hv
          rcases hh with rfl | ⟨bo, of, rfl, hc⟩
          · simp at hlt
          · exact ⟨bo, of, rfl, hc k hlt⟩
        have hts := HT.out L[k] (List.getElem_mem hlt)
        have hpr := hpa.upd HRr.out.upd (fun h => h)
        have hsu : encAll (L.take (k + 1)) = encAll (L.take k) ++ encP L[k] := encAll_succ L k hlt
        obtain ⟨rest, hsp⟩ := HSP.out k hk
        generalize L[k] = x at *
        obtain ⟨p1, p2, hs1, hs2, hs3⟩ := three_steps (encAll (L.take k)) rest x hpa.ok hts
        rw [← hsp] at hs1 hs2 hs3
        rw [← hsu] at hs3
        have hxb : bo ≠ a2 := by have := (World.block_lt_of_cell? _ _ hpa.c2); have := HRr.out.na; simp at *; omega
        obtain ⟨⟨_, _, m0, m1, ⟨n0, n1⟩, _⟩, c0, c1, c2, c3⟩ := hpr
        have hxn : ((x.n.toNat : Nat) : Int) = x.n := by omega
        obtain ⟨sg, hsg⟩ : ∃ sg, IntKind.i64.wrap x.n = sg := ⟨_, rfl⟩
        have hsg2 : wrap64 x.n = sg := by rw [← hsg]; exact (wrapI64 _).symm
        have hk1 : k + 1 ≤ n := by omega
        rw [hsg2] at hs2
        have HQ1 : Hid (∀ w', Rd w' a2 vs ⟨le, (encAll (L.take k)).length, 0, 0⟩ → Calls Try.prog 28 #[.pointer (some ⟨a2, 0, none⟩), .int .u64 18446744073709551615] w' fun e w'' => e = .returned (.int .u64 x.n) ∧ RdPost a2 vs ⟨le, p1, 0, 0⟩ w' w'') := fun w' hr => by
          refine (rnum_any a2 vs _ maxU w' hr).mono ?_
          intro e w'' h
          unfold RNumP at h
          rw [hs1] at h
          simp only [hxn] at h
          exact h
        have HQ2 : Hid (∀ w', Rd w' a2 vs ⟨le, p1, 0, 0⟩ → Calls Try.prog 31 #[.pointer (some ⟨a2, 0, none⟩)] w' fun e w'' => e = .returned (.int .i64 sg) ∧ RdPost a2 vs ⟨le, p2, 0, 0⟩ w' w'') := fun w' hr => by
          refine (rsigned_any a2 vs _ w' hr).mono ?_
          intro e w'' h
          rw [hs2] at h
          exact h
        have HQ3 : Hid (∀ w', Rd w' a2 vs ⟨le, p2, 0, 0⟩ → Calls Try.prog 30 #[.pointer (some ⟨a2, 0, none⟩), .int .i64 x.text.size] w' fun e w'' => e = .returned (.string x.text) ∧ RdPost a2 vs ⟨le, (encAll (L.take (k + 1))).length, 0, 0⟩ w' w'') := fun w' hr => by
          refine (rtext_any a2 vs _ _ w' hr (by omega)).mono ?_
          intro e w'' h
          unfold TextP at h
          rw [hs3, strOf_self] at h
          exact h
        have f1 : decide (k < L.length) = true := by simp [hlt]
        have f2 : decide ((k : Int) < 30) = true := by simp; omega
        clear hpa hs1 hs2 hs3 hsu hsp hxn hk
        go_wp2_with fail
        go_region_held3 (fun w' => w'.cell? ⟨bo, of + k * 4 + 2, none⟩ = some (.int .u64 x.n) ∧ w'.cell? ⟨bo, of + k * 4 + 3, none⟩ = some (.string x.text))
          (first | go_keep | (go_split_ands; exact ⟨hpA.2.cell_some (by assumption) hxb, hpA.2.cell_some (by assumption) hxb⟩) | (go_split_ands; exact ⟨hpB.2.cell_some (by assumption) hxb, hpB.2.cell_some (by assumption) hxb⟩) | (go_split_ands; exact ⟨hpC.2.cell_some (by assumption) hxb, hpC.2.cell_some (by assumption) hxb⟩))
          ((first
            | (go_at_call 28; refine (HQ1.out _ (HRr.out.rd.upd (Upd.refl (fun _ => False) wr).drew (fun _ _ _ h => h))).mono ?_; rintro e wA ⟨rfl, hpA⟩)
            | (go_at_call 31; refine (HQ2.out _ hpA.1).mono ?_; rintro e wB ⟨rfl, hpB⟩)
            | (go_at_call 30; refine (HQ3.out _ hpB.1).mono ?_; rintro e wC ⟨rfl, hpC⟩)))
        have HRC := Lib.hid ((((HRr.out.none (Upd.refl (fun _ => False) wr).drew).one hpA).one hpB).one hpC)
        clear hpA hpB hpC
        go_wp2_with fail
        go_roundw
        case rel => exact ⟨k + 1, by go_num, hk1, HRC.out⟩
        case measure => simp [intOf]; omega
      · have HKN : Hid (k = n) := by show _ = _; omega
        have HRN : Hid (BR w wr a2 vs ⟨le, le.length, 0, 0⟩) := by
          have h := HRr.out
          have e : encAll (L.take k) = le := by rw [HKN.out]; exact HLE.out
          rw [e] at h; exact h
        by_cases hlt : k < L.length
        · have f1 : decide (k < L.length) = true := by simp [hlt]
          have f2 : decide ((k : Int) < 30) = false := by have := HN.out; simp; omega
          clear hlt hk
          go_wp2_with fail
          go_meet
          exact HRN.out
        · have f1 : decide (k < L.length) = false := by simp; omega
          clear hlt hk
          go_wp2_with fail
          go_meet
          exact HRN.out
  case rest =>
  have HRe := Lib.hid hcut
  have HF : Hid (RS.fin ⟨le, le.length, 0, 0⟩ = (0, 0)) := by show _ = _; simp [RS.fin]
  clear hcut
  go_wp2_with fail
  refine (rend_any a2 vs ⟨le, le.length, 0, 0⟩ _ HRe.out.rd).mono ?_
  intro e w4 h
  rw [HF.out] at h
  obtain ⟨rfl, n4, rfl⟩ := h
  have HU4 := Lib.hid (HRe.out.upd.drewN n4)
  go_wp2_with fail
  refine (newReader_any _ lb _ (Bytes_upd HB.out HU4.out (fun _ _ h => h)) (by omega)).mono ?_
  rintro e w5 ⟨a3, vs3, rfl, ha3, hvs3, hr5, hu5⟩
  have HR5 : Hid (BR w w5 a3 vs3 ⟨lb, 0, 0, 0⟩) := ⟨hr5, Nat.le_trans HU4.out.size ha3, HU4.out.trans' hu5⟩
  clear ha3 hvs3 hr5 hu5
  go_wp2_with fail
  refine (newWriter_any _).mono ?_
  rintro e w6 ⟨a4, rfl, ha4, hw6, hu6⟩
  have HR6 := Lib.hid (HR5.out.none hu6)
  have HW6a : Hid (BW w w6 a4 (.slice none 0 0) []) := ⟨hw6, Nat.le_trans HR5.out.upd.size ha4, HR5.out.upd.trans' hu6⟩
  have HA34 : Hid (a3 < a4 ∧ ∀ j, vs3.ownBlock = some j → j ≠ a4) := ⟨by have := HR5.out.rd.lt; omega, fun j hj => by have := (HR5.out.rd.own.lt j hj).2; omega⟩
  clear ha4 hw6 hu6
  obtain ⟨N, s, y, hN⟩ : ∃ N s y, numR lb = (N, s, y) := ⟨_, _, _, rfl⟩
  have hok := numR_ok hN
  rcases hok with ⟨rfl, h0s, hs10, hsl, hN64⟩ | hbad
  · have hcan := numR_canon hN
    have HQ : Hid (∀ w', Rd w' a3 vs3 ⟨lb, 0, 0, 0⟩ → Calls Try.prog 28 #[.pointer (some ⟨a3, 0, none⟩), .int .u64 18446744073709551615] w' fun e w'' => e = .returned (.int .u64 (N : Int)) ∧ RdPost a3 vs3 ⟨lb, s, 0, 0⟩ w' w'') := fun w' hr => by
      refine (rnum_any a3 vs3 _ maxU w' hr).mono ?_
      intro e w'' h
      unfold RNumP at h
      have e1 : RS.number ⟨lb, 0, 0, 0⟩ maxU = (⟨lb, s, 0, 0⟩, N) := by
        unfold RS.number
        simp only [if_true, List.drop_zero, hN, Nat.zero_add]
        rw [if_neg (by omega), if_neg (by simp), if_neg (by unfold maxU; omega)]
      rw [e1] at h
      exact h
    obtain ⟨why, no, hfin, hwy⟩ : ∃ why no : Int, RS.fin ⟨lb, s, 0, 0⟩ = (why, no) ∧ (why = 0 ∨ why = 11) := by
      unfold RS.fin
      by_cases h : s < lb.length
      · exact ⟨11, s, by simp [h], .inr rfl⟩
      · exact ⟨0, 0, by simp [h], .inl rfl⟩
    obtain ⟨lf, hlf⟩ : ∃ lf, RS.left ⟨lb, s, 0, 0⟩ = lf := ⟨_, rfl⟩
    have hlf2 : lf = (lb.length : Int) - s := by rw [← hlf]; simp [RS.left]
    have HLF := Lib.hid hlf
    have HFI := Lib.hid hfin
    have hsub : IntKind.i64.wrap ((lb.length : Int) - lf) = (s : Int) := by rw [hlf2, IntWalk.i64_in _ (by omega)]; omega
    have hsub2 : wrap64 ((lb.length : Int) - lf) = (s : Int) := by rw [← wrapI64]; exact hsub
    have hs1 : (0 : Int) ≤ (s : Int) := by omega
    have hs2 : (s : Int) ≤ (capb : Int) := by have := HCB.out; omega
    obtain ⟨vt, t1, t2, t3⟩ := slice_to HB.out s hsl
    rw [hcan] at t2
    have HT2 := Lib.hid t2
    have HNL : Hid ((encN N).length ≤ 140737488355328) := by show _ ≤ _; rw [← hcan, List.length_take]; omega
    clear hN hcan hlf hlf2 hfin t2 t3 h0s hs10
    go_wp2_with fail
    refine (HQ.out _ HR6.out.rd).mono ?_
    rintro e w7 ⟨rfl, hp7⟩
    have HR7 := Lib.hid (HR6.out.one hp7)
    have HW7 : Hid (BW w w7 a4 (.slice none 0 0) []) := ⟨HW6a.out.wr.upd hp7.2 (fun j _ hj h => by
      rcases hj with h2 | h2
      · have := HA34.out.1; omega
      · simp [Value.ownBlock] at h2), HW6a.out.na, HR7.out.upd⟩
    clear hp7
    go_wp2_with fail
    refine (rend_any a3 vs3 ⟨lb, s, 0, 0⟩ _ HR7.out.rd).mono ?_
    intro e w8 h
    rw [HFI.out] at h
    obtain ⟨rfl, n8, rfl⟩ := h
    rcases hwy with rfl | rfl
    all_goals (
      go_wp2_with fail
      refine (number_any a4 _ [] (N : Int) _ (HW7.out.wr.upd ((Upd.refl (fun _ => False) w7).drewN n8) (fun _ _ _ h => h)) ⟨by omega, by omega⟩ (by simp)).mono ?_
      rintro e w9 ⟨rfl, v9, hw9, hu9, hv9⟩
      have HW9 : Hid (Wr w9 a4 v9 (encN N)) := by show Wr _ _ _ _; simpa using hw9
      have HU9 : Hid (Upd (fun _ => False) w w9) := (HR7.out.upd.drewN n8).trans hu9 (fun j hj h => by
        rcases h with h | h
        · have := HW7.out.na; omega
        · simp [Value.ownBlock] at h)
      have HG : Hid (∀ w', Upd (fun _ => False) w9 w' → Rd w' a3 vs3 ⟨lb, s, 0, 0⟩) := fun w' hu' => ((HR7.out.rd.upd ((Upd.refl (fun _ => False) w7).drewN n8) (fun _ _ _ h => h)).upd hu9 (fun j _ hj h => by
        rcases h with h | h
        · rcases hj with h2 | h2
          · have := HA34.out.1; omega
          · exact HA34.out.2 j h2 h
        · simp [Value.ownBlock] at h)).upd hu' (fun _ _ _ h => h)
      have HGW : Hid (∀ w', Upd (fun _ => False) w9 w' → Wr w' a4 v9 (encN N)) := fun w' hu' => HW9.out.upd hu' (fun _ _ _ h => h)
      have HGT : Hid (∀ w', Upd (fun _ => False) w9 w' → Bytes w' vt (encN N)) := fun w' hu' => HT2.out w' (Bytes_upd HB.out (HU9.out.trans' hu') (fun _ _ h => h))
      have hq0 : (convert 27 9 vt).run Try.prog w9.drew = _ := str_of (HGT.out _ (Upd.refl (fun _ => False) w9).drew)
      clear hw9 hu9 hv9
      go_wp2_with fail
      go_region_with (first
        | (go_at_call 15; refine (done_any a4 v9 (encN N) _ (HGW.out _ (by first | exact (Upd.refl (fun _ => False) w9).drew | exact HUL.out)) HNL.out).mono ?_; rintro e wD ⟨vD9, rfl, hoD9, huD9⟩; have HUX : Hid (Upd (fun _ => False) w9 wD) := (by first | exact (Upd.refl (fun _ => False) w9).drew.trans' huD9 | exact HUL.out.trans' huD9); have HOX := Lib.hid (Bytes_own hoD9); have hq1 := str_of HOX.out; have hq2 := str_of (HGT.out _ HUX.out); clear hoD9 huD9)
        | (go_at_call 33; refine (rleft_any a3 vs3 ⟨lb, s, 0, 0⟩ _ (HG.out _ (by first | exact (Upd.refl (fun _ => False) w9).drew | exact HUX.out))).mono ?_; intro e wL h; rw [HLF.out] at h; obtain ⟨rfl, nL, hL⟩ := h; have HUL : Hid (Upd (fun _ => False) w9 wL) := (by rw [hL]; first | exact (Upd.refl (fun _ => False) w9).drew.drewN nL | exact HUX.out.drewN nL); have hq3 := str_of (HGT.out _ HUL.out); (try (have hq4 := str_of (w := wL) (by rw [hL]; exact Bytes_drewN HOX.out nL))); clear hL)
        | (go_at_call 16; refine (known_any _).mono ?_; rintro e wK ⟨rfl, huK⟩; have HUK : Hid (Upd (fun _ => False) w9 wK) := (by first | exact HUL.out.trans' huK | exact HUX.out.trans' huK); clear huK))
      all_goals (
        go_wp2_with fail
        go_ret
        exact ⟨rfl, HU9.out.trans' HUK.out⟩))
  · obtain ⟨y', hy, hyy⟩ : ∃ r' : RS, RS.number ⟨lb, 0, 0, 0⟩ maxU = (r', 0) ∧ (r'.why = 10 ∨ r'.why = 12) := by
      unfold RS.number
      simp only [if_true, List.drop_zero, hN]
      rcases hbad with ⟨rfl, _⟩ | ⟨rfl, _⟩
      · exact ⟨_, by rw [if_pos rfl], .inl rfl⟩
      · exact ⟨_, by rw [if_neg (by omega), if_pos (by omega)], .inr rfl⟩
    have HQ : Hid (∀ w', Rd w' a3 vs3 ⟨lb, 0, 0, 0⟩ → Calls Try.prog 28 #[.pointer (some ⟨a3, 0, none⟩), .int .u64 18446744073709551615] w' fun e w'' => e = .returned (.int .u64 0) ∧ RdPost a3 vs3 y' w' w'') := fun w' hr => by
      refine (rnum_any a3 vs3 _ maxU w' hr).mono ?_
      intro e w'' h
      unfold RNumP at h
      rw [hy] at h
      exact h
    obtain ⟨why, no, hfin, hwy⟩ : ∃ why no : Int, RS.fin y' = (why, no) ∧ (why = 10 ∨ why = 12) := by
      unfold RS.fin
      rcases hyy with h | h
      · exact ⟨_, _, by rw [if_neg (by omega)], .inl h⟩
      · exact ⟨_, _, by rw [if_neg (by omega)], .inr h⟩
    have HFI := Lib.hid hfin
    clear hN hbad hy hyy hfin
    go_wp2_with fail
    refine (HQ.out _ HR6.out.rd).mono ?_
    rintro e w7 ⟨rfl, hp7⟩
    have HR7 := Lib.hid (HR6.out.one hp7)
    clear hp7
    go_wp2_with fail
    refine (rend_any a3 vs3 y' _ HR7.out.rd).mono ?_
    intro e w8 h
    rw [HFI.out] at h
    obtain ⟨rfl, n8, rfl⟩ := h
    rcases hwy with rfl | rfl
    all_goals (
      go_wp2_with fail
      refine (known_any _).mono ?_
      rintro e wK ⟨rfl, huK⟩
      have HUK := Lib.hid ((HR7.out.upd.drewN n8).trans' huK)
      clear huK
      go_wp2
      go_ret
      exact ⟨rfl, HUK.out⟩)
end Go.Proofs.Ytbpeoclhabgcgaa
