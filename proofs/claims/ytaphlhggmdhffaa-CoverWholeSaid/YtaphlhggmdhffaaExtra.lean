import Derived.Test.YtaphlhggmdhffaaMiss2
namespace Go.Proofs.Ytaphlhggmdhffaa
open Go.RowKit
set_option linter.unusedVariables false
set_option linter.unusedSimpArgs false
def extraTo (C L : Names) (q : Nat) : Names := (L.take q).filter (fun s => !inB (La s) C)
theorem extraTo_in {C L : Names} {q : Nat} {s : ByteArray} (h : L[q]? = some s) (hs : La s ∉ C) : extraTo C L (q + 1) = extraTo C L q ++ [s] := by
  unfold extraTo
  rw [List.take_add_one, h, List.filter_append]
  simp [List.filter_cons, inB_not hs]
theorem extraTo_out {C L : Names} {q : Nat} {s : ByteArray} (h : L[q]? = some s) (hs : La s ∈ C) : extraTo C L (q + 1) = extraTo C L q := by
  unfold extraTo
  rw [List.take_add_one, h, List.filter_append]
  simp [List.filter_cons, inB_iff.2 hs]
theorem extraTo_len (C L : Names) (q : Nat) : (extraTo C L q).length ≤ q := by
  unfold extraTo
  refine Nat.le_trans (List.length_filter_le _ _) ?_
  rw [List.length_take]; omega
set_option maxHeartbeats 4000000 in
set_option maxRecDepth 100000 in
/-- cover.Extra. -/
theorem extra_any (u u' : Value) (C L : Names) (w : World) (hC : CS w u C) (hL : SS w u' L) (hz : Sz L) (hn : L.length ≤ 1000) :
    Calls Try.prog 9 #[u, u'] w fun e w' => ∃ V, e = .returned V ∧ SS w' V (extraTo C L L.length) ∧ Upd (fun _ => False) w w' := by
  obtain ⟨ao, ca, rfl, hca, hcm, hL⟩ := hL
  have HC := Lib.hid hC
  have HL := Lib.hid hL
  have HZ := Lib.hid hz
  clear hL hz hC
  go_enter Try.func9, Try.ntmps9
  go_wp2_with fail
  go_loopw [10, 5] (fun i v wr => ∃ q : Nat, i = .int .i64 q ∧ q ≤ L.length ∧ wr.ownsRow w.heap.size 9 1 v (extraTo C L q).length (strV (extraTo C L q)) ∧ Upd (fun _ => False) w wr) (fun i _ _ => L.length - (intOf i).toNat)
  case atStart => exact ⟨0, rfl, Nat.zero_le _, World.ownsRow_nil _ _ _ _, Upd.refl _ _⟩
  case round =>
    obtain ⟨q, rfl, hq, ho, hu⟩ := hrel
    have HO := Lib.hid ho
    have HU := Lib.hid hu
    clear ho hu
    by_cases hlt : q < L.length
    · obtain ⟨b, off, s, rfl, hs, c1⟩ := SS.read HL.out hlt
      have c1 := HU.out.cell_some c1 (fun h => h)
      have HSq := Lib.hid hs
      have HSZ := Lib.hid (HZ.out s (List.mem_of_getElem? hs))
      have f1 : (q : Int) < (L.length : Int) := by omega
      have f0 : (0 : Int) ≤ (q : Int) := by omega
      have f3 : decide (q < L.length) = true := by simp; omega
      have f4 : q + 1 ≤ L.length := by omega
      have hlen := extraTo_len C L q
      clear hs hlt hq
      go_wp2_with fail
      refine (number_any u C s HSZ.out _ (HC.out.upd HU.out)).mono ?_
      rintro e w1 ⟨⟨n, rfl, hN⟩, hu1⟩
      have HU1 := Lib.hid (HU.out.trans' hu1)
      have HO1 := Lib.hid (ownsRow_upd HO.out hu1 (fun _ _ h => h))
      clear hu1
      rcases hN with ⟨rfl, hN⟩ | ⟨i, rfl, hN, _⟩
      · have HE := Lib.hid (extraTo_in HSq.out hN)
        clear hN
        obtain ⟨i9, hi9, y0, y1, y2⟩ := info_parts info9
        have HO2 := Lib.hid (ownsRow_upd HO1.out ((Upd.refl (fun _ => False) w1).alloc (.cells #[.string s] 9)) (fun _ _ h => h))
        have HSR := Lib.hid (news_src (size := 1) Try.underlying24 (w := w1) (e' := 9) [.string s] 1 rfl (by simp [Value.oneCell']))
        have HWS := Lib.hid HU1.out.size
        go_wp2_with (at_builtin; refine wpList_append_src_own _ rfl (.tmp 18) (.tmp 20) 24 24 rfl w.heap.size 9 i9 _ 1 16 Try.underlying24 hi9 y0 y1 y2 rfl u5 (extraTo C L q).length _ rfl HO2.out _ 1 _ rfl HSR.out (by unfold maxLen; omega) (by omega) (by have := HWS.out; simp; omega) ?c5)
        case c5 =>
        intro v' w5 p1 p2 p3 p4
        have HO5 := Lib.hid (show w5.ownsRow w.heap.size 9 1 v' (extraTo C L (q + 1)).length (strV (extraTo C L (q + 1))) by rw [HE.out, strV_app, List.length_append]; exact p1)
        have HU5 := Lib.hid (Upd.app HO2.out (HU1.out.alloc _) p2)
        clear p1 p2 p3 p4
        go_wp2_with fail
        go_roundw
        case rel => exact ⟨q + 1, by go_num, f4, HO5.out, HU5.out⟩
        case measure => simp [intOf]; omega
      · have HE := Lib.hid (extraTo_out HSq.out (List.mem_of_getElem? hN))
        have f7 : ¬ ((i : Int) < 0) := by omega
        clear hN
        go_wp2_with fail
        go_roundw
        case rel => exact ⟨q + 1, by go_num, f4, by rw [HE.out]; exact HO1.out, HU1.out⟩
        case measure => simp [intOf]; omega
    · have hq' : q = L.length := by omega
      subst hq'
      have f1 : ¬ ((L.length : Int) < (L.length : Int)) := by omega
      clear hlt hq
      go_wp2_with fail
      go_ret
      exact ⟨_, rfl, SS_own HO.out, HU.out⟩
def twiceTo (L : Names) : Nat → Names
  | 0 => []
  | q + 1 => twiceTo L q ++ (match L[q]? with | some s => (if inB (La s) ((L.take q).map La) then [s] else []) | none => [])
theorem twiceTo_in {L : Names} {q : Nat} {s : ByteArray} (h : L[q]? = some s) (hs : La s ∈ (L.take q).map La) : twiceTo L (q + 1) = twiceTo L q ++ [s] := by
  rw [twiceTo, h]; simp only [inB_iff.2 hs, if_true]
theorem twiceTo_out {L : Names} {q : Nat} {s : ByteArray} (h : L[q]? = some s) (hs : La s ∉ (L.take q).map La) : twiceTo L (q + 1) = twiceTo L q := by
  rw [twiceTo, h]; simp only [inB_not hs]; simp
theorem twiceTo_len (L : Names) : ∀ q, (twiceTo L q).length ≤ q
  | 0 => Nat.le_refl _
  | q + 1 => by
    rw [twiceTo, List.length_append]
    have := twiceTo_len L q
    have h : (match L[q]? with | some s => (if inB (La s) ((L.take q).map La) then [s] else []) | none => [] : Names).length ≤ 1 := by
      split
      · split <;> simp
      · simp
    omega
set_option maxHeartbeats 4000000 in
set_option maxRecDepth 100000 in
/-- cover.Twice. -/
theorem twice_any (u : Value) (L : Names) (w : World) (hL : SS w u L) (hz : Sz L) (hn : L.length ≤ 1000) :
    Calls Try.prog 12 #[u] w fun e w' => ∃ V, e = .returned V ∧ SS w' V (twiceTo L L.length) ∧ Upd (fun _ => False) w w' := by
  obtain ⟨ao, ca, rfl, hca, hcm, hL⟩ := hL
  have HL := Lib.hid hL
  have HZ := Lib.hid hz
  clear hL hz
  have hmm := @run_makeMap Try.prog
  go_enter Try.func12, Try.ntmps12
  go_wp2_with fail
  go_loopw [10, 4] (fun i v wr => ∃ q : Nat, i = .int .i64 q ∧ q ≤ L.length ∧ wr.ownsRow w.heap.size 9 1 v (twiceTo L q).length (strV (twiceTo L q)) ∧ MC wr w.heap.size q (cntTo L q) ∧ Upd (fun _ => False) w wr ∧ (∀ j, v.ownBlock = some j → j ≠ w.heap.size)) (fun i _ _ => L.length - (intOf i).toNat)
  case atStart => exact ⟨0, rfl, Nat.zero_le _, World.ownsRow_nil _ _ _ _, by rw [cntTo_zero]; exact MC.made w, (Upd.refl _ _).alloc _, fun j hj => by simp [Value.ownBlock] at hj⟩
  case round =>
    obtain ⟨q, rfl, hq, ho, hm, hu, hne⟩ := hrel
    have HO := Lib.hid ho
    have HM := Lib.hid hm
    have HU := Lib.hid hu
    have HNE := Lib.hid hne
    clear ho hm hu hne
    by_cases hlt : q < L.length
    · obtain ⟨b, off, s, rfl, hs, c1⟩ := SS.read HL.out hlt
      have c1 := HU.out.cell_some c1 (fun h => h)
      have HSq := Lib.hid hs
      have HST := Lib.hid (cntTo_step hs)
      have HSZ := Lib.hid (HZ.out s (List.mem_of_getElem? hs))
      have HSL := Lib.hid (show (La s).size ≤ 140737488351232 by have := La_size s; have := HSZ.out; omega)
      have f1 : (q : Int) < (L.length : Int) := by omega
      have f0 : (0 : Int) ≤ (q : Int) := by omega
      have f3 : decide (q < L.length) = true := by simp; omega
      have f4 : q + 1 ≤ L.length := by omega
      have f5 := cntTo_le L q (La s)
      have hlen := twiceTo_len L q
      clear hs hlt hq
      go_wp2_with fail
      refine (cl_any s HSZ.out _).mono ?_
      rintro e w1 ⟨rfl, rfl⟩
      by_cases e : La s ∈ (L.take q).map La
      · have hp := (cntTo_pos L q (La s)).2 e
        have HE := Lib.hid (twiceTo_in HSq.out e)
        have d1 : decide ((0 : Int) < (cntTo L q (La s) : Int)) = true := by simp; omega
        have d2 : (0 : Int) < (cntTo L q (La s) : Int) := by omega
        clear e
        obtain ⟨i9, hi9, y0, y1, y2⟩ := info_parts info9
        have HO2 := Lib.hid (ownsRow_upd HO.out ((Upd.refl (fun _ => False) w1).alloc (.cells #[.string s] 9)) (fun _ _ h => h))
        have HSR := Lib.hid (news_src (size := 1) Try.underlying24 (w := w1) (e' := 9) [.string s] 1 rfl (by simp [Value.oneCell']))
        have HWS := Lib.hid HU.out.size
        have HML := Lib.hid HM.out.lt
        go_wp2_with (first
          | (at_lookup; refine wpList_lookC rfl _ _ rfl w.heap.size q (cntTo L q) rfl HM.out (La s) HSL.out rfl ?_)
          | (at_builtin; refine wpList_append_src_own _ rfl (.tmp 19) (.tmp 21) 24 24 rfl w.heap.size 9 i9 _ 1 16 Try.underlying24 hi9 y0 y1 y2 rfl u4 (twiceTo L q).length _ rfl HO2.out _ 1 _ rfl HSR.out (by unfold maxLen; omega) (by omega) (by have := HWS.out; simp; omega) ?c5))
        case c5 =>
        intro v' w5 p1 p2 p3 p4
        have HO5 := Lib.hid (show w5.ownsRow w.heap.size 9 1 v' (twiceTo L (q + 1)).length (strV (twiceTo L (q + 1))) by rw [HE.out, strV_app, List.length_append]; exact p1)
        have HU5 := Lib.hid (Upd.app HO2.out (HU.out.alloc _) p2)
        have HM5 := Lib.hid (show MC w5 w.heap.size q (cntTo L q) from (HM.out.upd ((Upd.refl (fun _ => False) _).alloc _) (fun h => h)).upd (Upd.ofGrown p2) (fun h => HNE.out _ h rfl))
        have HNE5 := Lib.hid (show ∀ j, v'.ownBlock = some j → j ≠ w.heap.size from fun j hj => by
          rcases p3 j hj with h | h
          · exact HNE.out j h
          · have := HML.out
            have : w1.heap.size ≤ j := by first | omega | (simp at h; omega) | (have h2 : (w1.alloc (.cells #[.string s] 9)).heap.size ≤ j := h; simp at h2; omega)
            omega)
        clear p1 p2 p3 p4
        go_wp2_with fail
        refine (cl_any s HSZ.out _).mono ?_
        rintro e w6 ⟨rfl, rfl⟩
        go_wp2_with (first
          | (at_lookup; refine wpList_lookC rfl _ _ rfl w.heap.size q (cntTo L q) rfl HM5.out (La s) HSL.out rfl ?_)
          | (at_mapUpdate; refine wpList_putC rfl _ _ _ rfl w.heap.size q (cntTo L q) rfl HM5.out (by omega) (La s) HSL.out rfl (cntTo L q (La s) + 1) (by omega) (by first | rfl | go_num) ?c6))
        case c6 =>
        intro w7 h7 hu7
        have HM7 := Lib.hid (show MC w7 w.heap.size (q + 1) (cntTo L (q + 1)) by rw [HST.out]; exact h7)
        have HU7 := Lib.hid (HU5.out.trans hu7 (fun j hj e => by omega))
        have HO7 := Lib.hid (ownsRow_upd HO5.out hu7 (fun j hj => HNE5.out j hj))
        clear h7 hu7
        go_wp2_with fail
        go_roundw
        case rel => exact ⟨q + 1, by go_num, f4, HO7.out, HM7.out, HU7.out, HNE5.out⟩
        case measure => simp [intOf]; omega
      · have hp : cntTo L q (La s) = 0 := by
          rcases Nat.eq_zero_or_pos (cntTo L q (La s)) with h | h
          · exact h
          · exact absurd ((cntTo_pos L q (La s)).1 h) e
        have HE := Lib.hid (twiceTo_out HSq.out e)
        have d1 : decide ((0 : Int) < (cntTo L q (La s) : Int)) = false := by simp; omega
        have d2 : ¬ ((0 : Int) < (cntTo L q (La s) : Int)) := by omega
        clear hp e
        go_wp2_with (at_lookup; refine wpList_lookC rfl _ _ rfl w.heap.size q (cntTo L q) rfl HM.out (La s) HSL.out rfl ?_)
        refine (cl_any s HSZ.out _).mono ?_
        rintro e w6 ⟨rfl, rfl⟩
        go_wp2_with (first
          | (at_lookup; refine wpList_lookC rfl _ _ rfl w.heap.size q (cntTo L q) rfl HM.out (La s) HSL.out rfl ?_)
          | (at_mapUpdate; refine wpList_putC rfl _ _ _ rfl w.heap.size q (cntTo L q) rfl HM.out (by omega) (La s) HSL.out rfl (cntTo L q (La s) + 1) (by omega) (by first | rfl | go_num) ?c7))
        case c7 =>
        intro w7 h7 hu7
        have HM7 := Lib.hid (show MC w7 w.heap.size (q + 1) (cntTo L (q + 1)) by rw [HST.out]; exact h7)
        have HU7 := Lib.hid (HU.out.trans hu7 (fun j hj e => by omega))
        have HO7 := Lib.hid (ownsRow_upd HO.out hu7 (fun j hj => HNE.out j hj))
        clear h7 hu7
        go_wp2_with fail
        go_roundw
        case rel => exact ⟨q + 1, by go_num, f4, by rw [HE.out]; exact HO7.out, HM7.out, HU7.out, HNE.out⟩
        case measure => simp [intOf]; omega
    · have hq' : q = L.length := by omega
      subst hq'
      have f1 : ¬ ((L.length : Int) < (L.length : Int)) := by omega
      clear hlt hq
      go_wp2_with fail
      go_ret
      exact ⟨_, rfl, SS_own HO.out, HU.out⟩
end Go.Proofs.Ytaphlhggmdhffaa
