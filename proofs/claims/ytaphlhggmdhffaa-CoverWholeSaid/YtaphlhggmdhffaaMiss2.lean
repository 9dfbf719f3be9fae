import Derived.Test.YtaphlhggmdhffaaMiss
namespace Go.Proofs.Ytaphlhggmdhffaa
open Go.RowKit
set_option linter.unusedVariables false
set_option linter.unusedSimpArgs false
def inB (c : ByteArray) (A : Names) : Bool := A.any (fun x => decide (x = c))
theorem inB_iff {c : ByteArray} {A : Names} : inB c A = true ↔ c ∈ A := by
  unfold inB
  rw [List.any_eq_true]
  constructor
  · rintro ⟨x, hx, e⟩
    have : x = c := by simpa using e
    exact this ▸ hx
  · exact fun h => ⟨c, h, by simp⟩
theorem inB_not {c : ByteArray} {A : Names} (h : c ∉ A) : inB c A = false := by
  rcases hb : inB c A with _ | _
  · rfl
  · exact absurd (inB_iff.1 hb) h
def missTo (C L : Names) (q : Nat) : Names := (C.take q).filter (fun c => !inB c (L.map La))
theorem missTo_in {C L : Names} {q : Nat} {s : ByteArray} (h : C[q]? = some s) (hs : s ∉ L.map La) : missTo C L (q + 1) = missTo C L q ++ [s] := by
  unfold missTo
  rw [List.take_add_one, h, List.filter_append]
  simp [List.filter_cons, inB_not hs]
theorem missTo_out {C L : Names} {q : Nat} {s : ByteArray} (h : C[q]? = some s) (hs : s ∈ L.map La) : missTo C L (q + 1) = missTo C L q := by
  unfold missTo
  rw [List.take_add_one, h, List.filter_append]
  simp [List.filter_cons, inB_iff.2 hs]
theorem missTo_len (C L : Names) (q : Nat) : (missTo C L q).length ≤ q := by
  unfold missTo
  refine Nat.le_trans (List.length_filter_le _ _) ?_
  rw [List.length_take]; omega
set_option maxHeartbeats 4000000 in
set_option maxRecDepth 100000 in
/-- cover.Missing. -/
theorem missing_any (u u' : Value) (C L : Names) (w : World) (hC : CS w u C) (hzC : Sz C) (hC1 : C.length ≤ 1000) (hL : SS w u' L) (hz : Sz L) (hn : L.length ≤ 1000) :
    Calls Try.prog 8 #[u, u'] w fun e w' => ∃ V, e = .returned V ∧ SS w' V (missTo C L C.length) ∧ Upd (fun _ => False) w w' := by
  obtain ⟨ao, ca, rfl, hca, hcm, hC⟩ := hC
  have HC := Lib.hid hC
  have HL := Lib.hid hL
  have HZ := Lib.hid hz
  have HZC := Lib.hid hzC
  clear hL hz hC hzC
  go_enter Try.func8, Try.ntmps8
  go_wp2_with fail
  refine (counted_any u' L w HL.out HZ.out hn).mono ?_
  rintro e w1 ⟨B, rfl, hm, hB, hu⟩
  have HM0 := Lib.hid hm
  have HU0 := Lib.hid hu
  clear hm hu
  go_wp2_with fail
  go_loopw [13, 6] (fun i v wr => ∃ q : Nat, i = .int .i64 q ∧ q ≤ C.length ∧ wr.ownsRow w.heap.size 9 1 v (missTo C L q).length (strV (missTo C L q)) ∧ MC wr B L.length (cntTo L L.length) ∧ Upd (fun _ => False) w wr ∧ (∀ j, v.ownBlock = some j → j ≠ B)) (fun i _ _ => C.length - (intOf i).toNat)
  case atStart => exact ⟨0, rfl, Nat.zero_le _, World.ownsRow_nil _ _ _ _, HM0.out, HU0.out, fun j hj => by simp [Value.ownBlock] at hj⟩
  case round =>
    obtain ⟨q, rfl, hq, ho, hm, hu, hne⟩ := hrel
    have HO := Lib.hid ho
    have HM := Lib.hid hm
    have HU := Lib.hid hu
    have HNE := Lib.hid hne
    clear ho hm hu hne
    by_cases hlt : q < C.length
    · obtain ⟨b, off, s, rfl, hs, c1⟩ := CS.read HC.out hlt
      have HR := Lib.hid (show wr.rangeAt b (off + q * 2) [.string s, .slice none 0 0] from fun j v hv => HU.out.cell_some (c1 j v hv) (fun h => h))
      have HSZ := Lib.hid (HZC.out s (List.mem_of_getElem? hs))
      have HSq := Lib.hid hs
      have f1 : (q : Int) < (C.length : Int) := by omega
      have f0 : (0 : Int) ≤ (q : Int) := by omega
      have f3 : decide (q < C.length) = true := by simp; omega
      have f4 : q + 1 ≤ C.length := by omega
      have HW := Lib.hid (HU.out.alloc (.cells #[Value.string s, Value.slice none 0 0] 32))
      have HM1 := Lib.hid (HM.out.upd ((Upd.refl (fun _ => False) wr).alloc (.cells #[Value.string s, Value.slice none 0 0] 32)) (fun h => h))
      have HO1 := Lib.hid (ownsRow_upd HO.out ((Upd.refl (fun _ => False) wr).alloc (.cells #[Value.string s, Value.slice none 0 0] 32)) (fun _ _ h => h))
      have g1 := World.cell?_alloc_new wr #[Value.string s, Value.slice none 0 0] 32
      have hlen := missTo_len C L q
      clear hs c1 hlt hq
      by_cases e : s ∈ L.map La
      · have hp := (cntTo_pos L L.length s).2 (by rw [List.take_length]; exact e)
        have d1 : ((cntTo L L.length s : Int) == 0) = false := by simp; omega
        have HE := Lib.hid (missTo_out HSq.out e)
        have HSP := Lib.hid hp
        clear hp
        go_wp2_with (first
          | (refine wpList_load_mid rfl 32 (.tmp 15) rfl b (off + q * 2) (by first | rfl | (congr 3)) [.string s, .slice none 0 0] _ HR.out Try.underlying32 rfl size32 ?_)
          | (at_lookup; refine wpList_lookC rfl _ _ rfl B L.length (cntTo L L.length) rfl HM1.out s HSZ.out rfl ?_))
        go_roundw
        case rel => exact ⟨q + 1, by go_num, f4, by rw [HE.out]; exact HO1.out, HM1.out, HW.out, HNE.out⟩
        case measure => simp [intOf]; omega
      · have hp : cntTo L L.length s = 0 := by
          have := (cntTo_pos L L.length s).1
          rw [List.take_length] at this
          rcases Nat.eq_zero_or_pos (cntTo L L.length s) with h | h
          · exact h
          · exact absurd (this h) e
        have d1 : ((cntTo L L.length s : Int) == 0) = true := by simp; omega
        have HE := Lib.hid (missTo_in HSq.out e)
        clear hp
        obtain ⟨i9, hi9, y0, y1, y2⟩ := info_parts info9
        have HO2 := Lib.hid (ownsRow_upd HO1.out ((Upd.refl (fun _ => False) (wr.alloc (.cells #[Value.string s, Value.slice none 0 0] 32))).alloc (.cells #[.string s] 9)) (fun _ _ h => h))
        have hsr := news_src (size := 1) Try.underlying24 (w := wr.alloc (.cells #[Value.string s, Value.slice none 0 0] 32)) (e' := 9) [.string s] 1 rfl (by simp [Value.oneCell'])
        rw [show (wr.alloc (.cells #[Value.string s, Value.slice none 0 0] 32)).heap.size = wr.heap.size + 1 by simp] at hsr
        have HSR := Lib.hid hsr
        clear hsr
        have HWS := Lib.hid HW.out.size
        go_wp2_with (first
          | (refine wpList_load_mid rfl 32 (.tmp 15) rfl b (off + q * 2) (by first | rfl | (congr 3)) [.string s, .slice none 0 0] _ HR.out Try.underlying32 rfl size32 ?_)
          | (at_lookup; refine wpList_lookC rfl _ _ rfl B L.length (cntTo L L.length) rfl HM1.out s HSZ.out rfl ?_)
          | (at_builtin; go_loud (refine wpList_append_src_own _ rfl (.tmp 22) (.tmp 25) 24 24 rfl w.heap.size 9 i9 _ 1 16 Try.underlying24 hi9 y0 y1 y2 rfl u6 (missTo C L q).length _ rfl HO2.out _ 1 _ rfl HSR.out (by unfold maxLen; omega) (by omega) (by have := HWS.out; simp at this ⊢; omega) ?c5)))
        case c5 =>
        intro v' w5 p1 p2 p3 p4
        have HO5 := Lib.hid (show w5.ownsRow w.heap.size 9 1 v' (missTo C L (q + 1)).length (strV (missTo C L (q + 1))) by rw [HE.out, strV_app, List.length_append]; exact p1)
        have HU5 := Lib.hid (Upd.app HO2.out (HW.out.alloc _) p2)
        have HM5 := Lib.hid (show MC w5 B L.length (cntTo L L.length) from (HM1.out.upd ((Upd.refl (fun _ => False) _).alloc _) (fun h => h)).upd (Upd.ofGrown p2) (fun h => HNE.out B h rfl))
        have HNE5 := Lib.hid (show ∀ j, v'.ownBlock = some j → j ≠ B from fun j hj => by
          rcases p3 j hj with h | h
          · exact HNE.out j h
          · have := HM1.out.lt
            have : (wr.alloc (.cells #[Value.string s, Value.slice none 0 0] 32)).heap.size ≤ j := by simp at h ⊢; omega
            omega)
        clear p1 p2 p3 p4
        go_wp2_with fail
        go_roundw
        case rel => exact ⟨q + 1, by go_num, f4, HO5.out, HM5.out, HU5.out, HNE5.out⟩
        case measure => simp [intOf]; omega
    · have hq' : q = C.length := by omega
      subst hq'
      have f1 : ¬ ((C.length : Int) < (C.length : Int)) := by omega
      clear hlt hq
      go_wp2_with fail
      go_ret
      exact ⟨_, rfl, SS_own HO.out, HU.out⟩
end Go.Proofs.Ytaphlhggmdhffaa
