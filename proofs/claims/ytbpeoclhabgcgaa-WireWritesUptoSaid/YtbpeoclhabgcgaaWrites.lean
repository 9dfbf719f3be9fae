import Derived.Test.YtbpeoclhabgcgaaRefW
import Derived.Test.YtbpeoclhabgcgaaParts
import Derived.Lib.ConvBytes
import Derived.Deep.RegionWith
namespace Go.Proofs.Ytbpeoclhabgcgaa
open Go.RowKit
set_option linter.unusedVariables false
set_option linter.unusedSimpArgs false

/-- The writer, and beside it what is wanted. -/
structure WW (w0 w : World) (a : Nat) (vW vt : Value) (mw mt : List UInt8) : Prop where
  wr : Wr w a vW mw
  own : w.ownsRow w0.heap.size 5 1 vt mt.length (bytesV mt)
  na : w0.heap.size ≤ a
  ap : ∀ j, vt.ownBlock = some j → vW.ownBlock ≠ some j ∧ j ≠ a
  upd : Upd (fun _ => False) w0 w

theorem WW.one {w0 w w1 : World} {a : Nat} {vW vt : Value} {mw mt m : List UInt8} (h : WW w0 w a vW vt mw mt) (hp : WrPost a vW m w w1) : ∃ vW', WW w0 w1 a vW' vt m mt := by
  obtain ⟨v', h1, h2, h3⟩ := hp
  refine ⟨v', h1, ownsRow_upd h.own h2 (fun j hj hs => ?_), h.na, fun j hj => ⟨fun e => ?_, (h.ap j hj).2⟩, h.upd.trans h2 (fun j hj hs => ?_)⟩
  · rcases hs with rfl | hs
    · exact (h.ap _ hj).2 rfl
    · exact (h.ap j hj).1 hs
  · rcases h3 j e with h4 | h4
    · exact (h.ap j hj).1 h4
    · have := (h.own.lt j hj).2; omega
  · have := h.na
    rcases hs with rfl | hs
    · omega
    · have := (h.wr.own.lt j hs).1; omega
theorem WW.two {w0 w w1 : World} {a : Nat} {vW vt vt' : Value} {mw mt m : List UInt8} (h : WW w0 w a vW vt mw mt) (ho : w1.ownsRow w.heap.size 5 1 vt' m.length (bytesV m)) (hu : Upd (fun _ => False) w w1) : WW w0 w1 a vW vt' mw m := by
  refine ⟨h.wr.upd hu (fun _ _ _ h => h), ownsRow_base ho (fun j hj => by have := (ho.lt j hj).1; have := h.upd.size; omega), h.na, fun j hj => ⟨fun e => ?_, fun e => ?_⟩, h.upd.trans' hu⟩
  · have := (ho.lt j hj).1; have := (h.wr.own.lt j e).2; omega
  · have := (ho.lt j hj).1; have := h.wr.lt; omega
theorem WW.app {w0 w w1 : World} {a : Nat} {vW vt vt' : Value} {mw mt m : List UInt8} (h : WW w0 w a vW vt mw mt) (ho : w1.ownsRow w0.heap.size 5 1 vt' m.length (bytesV m)) (hg : w.grownBy w1 vt.ownBlock)
    (hn : ∀ j, vt'.ownBlock = some j → vt.ownBlock = some j ∨ w.heap.size ≤ j) : WW w0 w1 a vW vt' mw m := by
  have hu : Upd (fun j => vt.ownBlock = some j) w w1 := Upd.ofGrown hg
  refine ⟨h.wr.upd hu (fun j _ hj e => ?_), ho, h.na, fun j hj => ⟨fun e => ?_, fun e => ?_⟩, h.upd.trans hu (fun j hj e => by have := (h.own.lt j e).1; omega)⟩
  · rcases hj with rfl | hj
    · exact (h.ap _ e).2 rfl
    · exact (h.ap j e).1 hj
  · rcases hn j hj with h1 | h1
    · exact (h.ap j h1).1 e
    · have := (h.wr.own.lt j e).2; omega
  · rcases hn j hj with h1 | h1
    · exact (h.ap j h1).2 e
    · have := h.wr.lt; omega
theorem WW.upd0 {w0 w w1 : World} {a : Nat} {vW vt : Value} {mw mt : List UInt8} (h : WW w0 w a vW vt mw mt) (hu : Upd (fun _ => False) w w1) : WW w0 w1 a vW vt mw mt :=
  ⟨h.wr.upd hu (fun _ _ _ h => h), ownsRow_upd h.own hu (fun _ _ h => h), h.na, h.ap, h.upd.trans' hu⟩

/-- '[]byte(s)': the world behind it, and what can be read there. -/
theorem bytesWorld_upd (w : World) (s : ByteArray) : Upd (fun _ => False) w (Lib.bytesWorld w 5 s) :=
  ⟨rfl, rfl, rfl, by rw [Lib.bytesWorld_size]; omega, fun k hk _ => Lib.bytesWorld_at_old w 5 s k hk⟩
theorem bytesWorld_bytes (w : World) (s : ByteArray) (hs : s.size ≤ 140737488355328) : Bytes (Lib.bytesWorld w 5 s) (.slice (some ⟨w.heap.size, 0, none⟩) s.size (grownCap w s.size 0 5)) s.data.toList := by
  have hl : s.data.toList.length = s.size := Array.length_toList
  refine ⟨_, _, by rw [hl], by rw [hl]; exact grownCap_ge _ _ _ _, grownCap_le_maxLen _ _ _ _ (by unfold maxLen; omega), .inr ⟨_, 0, rfl, fun i hi => ?_⟩⟩
  rw [Nat.zero_add, Lib.bytesWorld_cell w 5 s i (by omega)]
  simp only [byteV]
  congr 3
  rw [List.getD_eq_getElem?_getD, List.getElem?_eq_getElem hi]; rfl

set_option maxHeartbeats 1500000 in
set_option maxRecDepth 100000 in
theorem writes_any (u : Value) (L : List PartV) (w : World) (hp : Parts w u L) (hT : ∀ x ∈ L, x.text.size ≤ 1048576) :
    Calls Try.prog 4 #[u] w (TrueP w) := by
  obtain ⟨i0, hi, hz0, hz1, hz2⟩ := info_parts Try.info5
  have HP0 := Lib.hid hp
  have HT := Lib.hid hT
  obtain ⟨ao, cap, rfl, hm, _⟩ := hp
  have hmm : L.length ≤ 9223372036854775807 := by unfold maxLen at hm; exact hm
  clear hm hT
  go_enter Try.func4, Try.ntmps4
  go_wp2_with fail
  refine (newWriter_any _).mono ?_
  rintro e w1 ⟨a, rfl, ha, hw, hu⟩
  have HW0 : Hid (WW w w1 a (.slice none 0 0) (.slice none 0 0) [] []) := ⟨hw, World.ownsRow_nil _ _ _ _, ha, fun j hj => by simp [Value.ownBlock] at hj, hu⟩
  clear hw hu ha
  go_wp2_with fail
  go_loopw [4, 5] (fun t i wr => ∃ (k : Nat) (m : List UInt8) (vt vW : Value), i = .int .i64 k ∧ vt = t ∧ k ≤ 30 ∧ k ≤ L.length ∧ m.length ≤ k * 1048600 ∧ WW w wr a vW vt m m) (fun _ i _ => 30 - (intOf i).toNat)
  case atStart => exact ⟨0, [], _, _, rfl, rfl, by omega, by omega, by simp, HW0.out⟩
  case round =>
    obtain ⟨k, m, vt, vW, rfl, rfl, hk30, hkL, hml, hww⟩ := hrel
    have HWr := Lib.hid hww
    have HML := Lib.hid (Nat.le_trans hml (Nat.mul_le_mul_right 1048600 (Nat.le_succ k)))
    clear hww
    by_cases hlt : k < L.length
    · by_cases hk : k < 30
      · obtain ⟨bo, of, rfl, hpa⟩ : ∃ bo of, ao = some ⟨bo, of, none⟩ ∧ PartAt w bo (of + k * 4) L[k] := by
          obtain ⟨ao', cap', hv, _, hh⟩ := HP0.out
          simp only [Value.slice.injEq] at hv
          obtain ⟨rfl, _, rfl⟩ := hv
          rcases hh with rfl | ⟨bo, of, rfl, hc⟩
          · simp at hlt
          · exact ⟨bo, of, rfl, hc k hlt⟩
        have hts := HT.out L[k] (List.getElem_mem hlt)
        have hpr := hpa.upd HWr.out.upd (fun h => h)
        generalize L[k] = x at *
        have HPR := Lib.hid hpr
        obtain ⟨⟨_, _, m0, m1, ⟨n0, n1⟩, _⟩, p0, p1, p2, p3⟩ := hpr
        have HPB : Hid (PartAt w bo (of + k * 4) x) := hpa
        by_cases q1 : x.kind = 1
        · have s1 : (x.kind == 1) = true := by simp [q1]
          clear q1
          have HEN := Lib.hid (encN_u64 (n := x.n) ⟨n0, n1⟩)
          go_wp2_with fail
          refine (number_any a vW m x.n _ HWr.out.wr ⟨n0, n1⟩ (by omega)).mono ?_
          rintro e wA ⟨rfl, hpA⟩
          obtain ⟨vW1, hwA⟩ := HWr.out.one hpA
          have HWA := Lib.hid hwA
          obtain ⟨_, p0, p1, p2, p3⟩ := HPB.out.upd hwA.upd (fun h => h)
          clear hpA hwA
          go_wp2_with fail
          refine (fwnumber_any vt m x.n _ (Bytes_own HWA.out.own) ⟨n0, n1⟩ (by omega)).mono ?_
          rintro e wB ⟨vt1, rfl, hoB, huB⟩
          have HWB := Lib.hid (HWA.out.two hoB huB)
          clear hoB huB p0 p1 p2 p3
          have hlen : (m ++ encN x.n.toNat).length ≤ (k + 1) * 1048600 := by
            have h1 := HEN.out
            simp only [List.length_append] at *
            omega
          go_wp2_with fail
          go_roundw
          case rel => exact ⟨k + 1, _, _, _, by go_num, rfl, by omega, by omega, hlen, HWB.out⟩
          case measure => simp [intOf]; omega
        have s1 : (x.kind == 1) = false := by simp [q1]
        by_cases q2 : x.kind = 2
        · have s2 : (x.kind == 2) = true := by simp [q2]
          clear q2
          have hs : -9223372036854775808 ≤ wrap64 x.n ∧ wrap64 x.n ≤ 9223372036854775807 := by unfold wrap64; omega
          have HEN := Lib.hid (encN_u64 (zig_u64 _ hs.1 hs.2))
          have HS := Lib.hid hs
          clear hs
          go_wp2_with fail
          refine (wsigned_any a vW _ m _ HWr.out.wr HS.out (by omega)).mono ?_
          rintro e wA ⟨rfl, hpA⟩
          obtain ⟨vW1, hwA⟩ := HWr.out.one hpA
          have HWA := Lib.hid hwA
          obtain ⟨_, p0, p1, p2, p3⟩ := HPB.out.upd hwA.upd (fun h => h)
          clear hpA hwA
          go_wp2_with fail
          refine (fwsigned_any vt m _ _ (Bytes_own HWA.out.own) HS.out (by omega)).mono ?_
          rintro e wB ⟨vt1, rfl, hoB, huB⟩
          have HWB := Lib.hid (HWA.out.two hoB huB)
          clear hoB huB p0 p1 p2 p3
          have hlen : (m ++ encN (zig (wrap64 x.n)).toNat).length ≤ (k + 1) * 1048600 := by
            have h1 := HEN.out
            simp only [List.length_append] at *
            omega
          go_wp2_with fail
          go_roundw
          case rel => exact ⟨k + 1, _, _, _, by go_num, rfl, by omega, by omega, hlen, HWB.out⟩
          case measure => simp [intOf]; omega
        have s2 : (x.kind == 2) = false := by simp [q2]
        by_cases q3 : x.kind = 3
        · have s3 : (x.kind == 3) = true := by simp [q3]
          clear q3
          have HEN : Hid ((encN x.text.size).length ≤ 10 ∧ x.text.data.toList.length = x.text.size) := ⟨by have := encN_u64 (n := (x.text.size : Int)) ⟨by omega, by omega⟩; simpa using this, Array.length_toList⟩
          go_wp2_with fail
          refine (wtext_any a vW x.text m _ HWr.out.wr (by omega)).mono ?_
          rintro e wA ⟨rfl, hpA⟩
          obtain ⟨vW1, hwA⟩ := HWr.out.one hpA
          have HWA := Lib.hid hwA
          obtain ⟨_, p0, p1, p2, p3⟩ := HPB.out.upd hwA.upd (fun h => h)
          clear hpA hwA
          go_wp2_with fail
          refine (fwtext_any vt m x.text _ (Bytes_own HWA.out.own) (by omega)).mono ?_
          rintro e wB ⟨vt1, rfl, hoB, huB⟩
          have HWB := Lib.hid (HWA.out.two hoB huB)
          clear hoB huB p0 p1 p2 p3
          have hlen : (m ++ encN x.text.size ++ x.text.data.toList).length ≤ (k + 1) * 1048600 := by
            have h1 := HEN.out
            simp only [List.length_append] at *
            omega
          go_wp2_with fail
          go_roundw
          case rel => exact ⟨k + 1, _, _, _, by go_num, rfl, by omega, by omega, hlen, HWB.out⟩
          case measure => simp [intOf]; omega
        have s3 : (x.kind == 3) = false := by simp [q3]
        by_cases q4 : x.kind = 4
        · have s4 : (x.kind == 4) = true := by simp [q4]
          clear q4
          have HEN : Hid (x.text.data.toList.length = x.text.size) := Array.length_toList
          have hcv : (convert 9 27 (.string x.text)).run Try.prog wr = .ok (.slice (some ⟨wr.heap.size, 0, none⟩) x.text.size (grownCap wr x.text.size 0 5)) (Lib.bytesWorld wr 5 x.text) := Lib.run_convert_string_bytes wr 9 27 5 x.text Try.underlying9 Try.underlying27 Try.underlying5
          have HBW := Lib.hid (bytesWorld_bytes wr x.text (by omega))
          have HWU := Lib.hid (HWr.out.upd0 (bytesWorld_upd wr x.text))
          generalize hgb : Lib.bytesWorld wr 5 x.text = wb at *
          clear hgb
          go_wp2_with fail
          refine (wraw_any a vW _ m x.text.data.toList _ HWU.out.wr HBW.out (by have := HEN.out; omega)).mono ?_
          rintro e wA ⟨rfl, hpA⟩
          obtain ⟨vW1, hwA⟩ := HWU.out.one hpA
          have HWA := Lib.hid hwA
          obtain ⟨_, p0, p1, p2, p3⟩ := HPB.out.upd hwA.upd (fun h => h)
          have hsz := hwA.upd.size
          clear hpA hwA hcv
          have HBC := Lib.hid (byteCells_eq x.text)
          go_wp2_with (at_builtin; go_must (refine wpList_append_src_own _ rfl (.tmp 84) (.tmp 89) 27 9 rfl w.heap.size 5 i0 (.int .u8 0) 1 1 Try.underlying27 hi hz0 hz1 hz2 rfl vt _ _ rfl HWA.out.own _ x.text.size (byteCells x.text) rfl (Src.ofString _ Try.underlying9 x.text) (by unfold maxLen; omega) (by omega) hsz ?c5))
          case c5 =>
          intro vt1 wB hown hgrow hnew hshape
          rw [HBC.out] at hown
          have HWB : Hid (WW w wB a vW1 vt1 (m ++ x.text.data.toList) (m ++ x.text.data.toList)) := HWA.out.app (by rw [List.length_append, bytesV_append, HEN.out]; exact hown) hgrow hnew
          clear hown hgrow hnew hshape p0 p1 p2 p3
          have hlen : (m ++ x.text.data.toList).length ≤ (k + 1) * 1048600 := by
            have h1 := HEN.out
            simp only [List.length_append] at *
            omega
          go_wp2_with fail
          go_roundw
          case rel => exact ⟨k + 1, _, _, _, by go_num, rfl, by omega, by omega, hlen, HWB.out⟩
          case measure => simp [intOf]; omega
        have s4 : (x.kind == 4) = false := by simp [q4]
        clear q1 q2 q3 q4
        go_wp2_with fail
        go_roundw
        case rel => exact ⟨k + 1, m, _, _, by go_num, rfl, by omega, by omega, HML.out, HWr.out⟩
        case measure => simp [intOf]; omega

      · have f1 : decide (k < L.length) = true := by simp [hlt]
        have f2 : decide ((k : Int) < 30) = false := by simp; omega
        have hml2 : m.length ≤ 140737488355328 := by omega
        clear hlt hk
        go_wp2_with fail
        have hsT := str_of (w := wr.drew) (Bytes_own (HWr.out.upd0 (Upd.refl (fun _ => False) wr).drew).own)
        go_region_with (first
          | (go_at_call 15; refine (done_any a vW m _ (HWr.out.upd0 (Upd.refl (fun _ => False) wr).drew).wr hml2).mono ?_; rintro e wD ⟨vD, rfl, hoD, huD⟩; have hsD := str_of (Bytes_own hoD); have hsU := str_of (w := wD) (Bytes_own ((HWr.out.upd0 (Upd.refl (fun _ => False) wr).drew).upd0 huD).own); have HUD := Lib.hid ((HWr.out.upd0 (Upd.refl (fun _ => False) wr).drew).upd0 huD).upd; clear hoD huD)
          | (go_at_call 16; refine (known_any _).mono ?_; rintro e wK ⟨rfl, huK⟩; have HUK := Lib.hid (HUD.out.trans' huK); clear huK))
        all_goals (
          go_wp2_with fail
          go_ret
          exact ⟨rfl, HUK.out⟩)
    · have f1 : decide (k < L.length) = false := by simp; omega
      have hml2 : m.length ≤ 140737488355328 := by omega
      clear hlt
      go_wp2_with fail
      have hsT := str_of (w := wr.drew) (Bytes_own (HWr.out.upd0 (Upd.refl (fun _ => False) wr).drew).own)
      go_region_with (first
        | (go_at_call 15; refine (done_any a vW m _ (HWr.out.upd0 (Upd.refl (fun _ => False) wr).drew).wr hml2).mono ?_; rintro e wD ⟨vD, rfl, hoD, huD⟩; have hsD := str_of (Bytes_own hoD); have hsU := str_of (w := wD) (Bytes_own ((HWr.out.upd0 (Upd.refl (fun _ => False) wr).drew).upd0 huD).own); have HUD := Lib.hid ((HWr.out.upd0 (Upd.refl (fun _ => False) wr).drew).upd0 huD).upd; clear hoD huD)
        | (go_at_call 16; refine (known_any _).mono ?_; rintro e wK ⟨rfl, huK⟩; have HUK := Lib.hid (HUD.out.trans' huK); clear huK))
      all_goals (
        go_wp2_with fail
        go_ret
        exact ⟨rfl, HUK.out⟩)
end Go.Proofs.Ytbpeoclhabgcgaa
