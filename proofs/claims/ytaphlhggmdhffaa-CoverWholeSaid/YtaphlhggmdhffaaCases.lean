import Derived.Test.YtaphlhggmdhffaaInfo
namespace Go.Proofs.Ytaphlhggmdhffaa
open Go.RowKit
set_option linter.unusedVariables false
set_option linter.unusedSimpArgs false
def casesS (L : Names) : Names := (L.take 10).map La
theorem casesS_step {L : Names} {q : Nat} {s : ByteArray} (h : L[q]? = some s) : (L.take (q + 1)).map La = (L.take q).map La ++ [La s] := by
  rw [List.take_add_one, h]; simp
/-- A block with the new cells. -/
theorem news_src {P : Program} {size : Nat} {tx e : TypeId} (ht : P.underlying tx = some (.slice e)) {w : World} {e' : TypeId} (news : List Value) (m : Nat) (hs : news.length = m * size) (h1 : ∀ u ∈ news, u.oneCell' = true) :
    Src P size tx (.slice (some ⟨w.heap.size, 0, none⟩) m m) m news (w.alloc (.cells news.toArray e')) :=
  Src.ofSlice (P := P) (size := size) (tx := tx) (e' := e) (w := w.alloc (.cells news.toArray e')) ht ⟨w.heap.size, 0, none⟩ m m news hs (World.news_of_block (heap_alloc_new w _)) h1
theorem own_ge {w : World} {base : Nat} {e : TypeId} {size : Nat} {v : Value} {n : Nat} {xs : List Value} (h : w.ownsRow base e size v n xs) {j : Nat} (hj : v.ownBlock = some j) : base ≤ j := by
  rcases h.2 with ⟨rfl, _⟩ | ⟨g, cap, cur, rfl, hb, _⟩
  · simp [Value.ownBlock] at hj
  · simp [Value.ownBlock] at hj; omega
/-- An append to a list of one's own changes nothing that was there. -/
theorem Upd.app {w wr w' : World} {e : TypeId} {size : Nat} {v : Value} {n : Nat} {xs : List Value} (h : wr.ownsRow w.heap.size e size v n xs) (hu : Upd (fun _ => False) w wr) (hg : wr.grownBy w' v.ownBlock) : Upd (fun _ => False) w w' :=
  hu.grown hg (fun k hk hlt => by have := own_ge h hk; omega)
set_option maxHeartbeats 4000000 in
set_option maxRecDepth 100000 in
theorem cases_any (u : Value) (L : Names) (w : World) (hL : SS w u L) (hz : Sz L) :
    Calls Try.prog 7 #[u] w fun e w' => ∃ V, e = .returned V ∧ CS w' V (casesS L) ∧ Upd (fun _ => False) w w' := by
  obtain ⟨ao, ca, rfl, hca, hcm, hL⟩ := hL
  have HL := Lib.hid hL
  have HZ := Lib.hid hz
  clear hL hz
  go_enter Try.func7, Try.ntmps7
  go_wp2_with fail
  go_loopw [3, 4] (fun v i wr => ∃ q : Nat, i = .int .i64 q ∧ q ≤ L.length ∧ q ≤ 10 ∧ wr.ownsRow w.heap.size 32 2 v q (caseV ((L.take q).map La)) ∧ Upd (fun _ => False) w wr) (fun _ i _ => L.length - (intOf i).toNat)
  case atStart => exact ⟨0, rfl, Nat.zero_le _, by omega, World.ownsRow_nil _ _ _ _, Upd.refl _ _⟩
  case round =>
    obtain ⟨q, rfl, hq, hq10, ho, hu⟩ := hrel
    have HO := Lib.hid ho
    have HU := Lib.hid hu
    clear ho hu
    by_cases hlt : q < L.length
    · by_cases h10 : q < 10
      · obtain ⟨b, off, rfl, hc⟩ : ∃ b off, ao = some ⟨b, off, none⟩ ∧ ∀ i (h : i < L.length), w.cell? ⟨b, off + i, none⟩ = some (.string L[i]) := by
          rcases HL.out with h | h
          · rw [h] at hlt; simp at hlt
          · exact h
        obtain ⟨s, hs, c1⟩ := SS.at hc q hlt
        have c1 := HU.out.cell_some c1 (fun h => h)
        have HS := Lib.hid (casesS_step hs)
        have HSZ := Lib.hid (HZ.out s (List.mem_of_getElem? hs))
        have f1 : (q : Int) < (L.length : Int) := by omega
        have f0 : (0 : Int) ≤ (q : Int) := by omega
        have f3 : decide (q < L.length) = true := by simp; omega
        have f5 : decide ((q : Int) < 10) = true := by simp; omega
        have f4 : q + 1 ≤ L.length := by omega
        have f6 : q + 1 ≤ 10 := by omega
        clear hc hs hlt hq h10 hq10
        go_wp2_with fail
        refine (ol_any s HSZ.out _).mono ?_
        rintro e w' ⟨rfl, rfl⟩
        obtain ⟨i32, hi32, y0, y1, y2⟩ := info_parts info32
        have HO2 := Lib.hid (ownsRow_upd HO.out ((Upd.refl (fun _ => False) w').alloc (.cells #[.string (La s), .slice none 0 0] 32)) (fun _ _ h => h))
        have HSR := Lib.hid (news_src (size := 2) Try.underlying22 (w := w') (e' := 32) [.string (La s), .slice none 0 0] 1 rfl (by simp [Value.oneCell']))
        have HWS := Lib.hid HU.out.size
        go_wp2_with (at_builtin; refine wpList_append_src_own _ rfl (.tmp 15) (.tmp 22) 22 22 rfl w.heap.size 32 i32 _ 2 40 Try.underlying22 hi32 y0 y1 y2 rfl u3 q _ rfl HO2.out _ 1 _ rfl HSR.out (by unfold maxLen; omega) (by omega) (by have := HWS.out; simp; omega) ?c5)
        case c5 =>
        intro v' w5 p1 p2 p3 p4
        have HO5 := Lib.hid (show w5.ownsRow w.heap.size 32 2 v' (q + 1) (caseV ((L.take (q + 1)).map La)) by rw [HS.out, caseV_app]; simpa using p1)
        have HU5 := Lib.hid (Upd.app HO2.out (HU.out.alloc _) p2)
        clear p1 p2 p3 p4
        go_wp2_with fail
        go_roundw
        case rel => exact ⟨q + 1, by go_num, f4, f6, HO5.out, HU5.out⟩
        case measure => simp [intOf]; omega
      · have hq10' : q = 10 := by omega
        have f3 : decide (q < L.length) = true := by simp; omega
        have f5 : decide ((q : Int) < 10) = false := by simp; omega
        have HC := Lib.hid (show CS wr u3 (casesS L) by
          have := CS_own (L := (L.take q).map La) (by rw [List.length_map, List.length_take, Nat.min_eq_left (by omega)]; exact HO.out)
          rw [hq10'] at this; exact this)
        clear hlt hq h10 hq10
        subst hq10'
        go_wp2_with fail
        all_goals go_ret
        all_goals exact ⟨_, rfl, HC.out, HU.out⟩
    · have hq' : q = L.length := by omega
      have f3 : decide (q < L.length) = false := by simp; omega
      have HC := Lib.hid (show CS wr u3 (casesS L) by
        have := CS_own (L := (L.take q).map La) (by rw [List.length_map, List.length_take, Nat.min_eq_left (by omega)]; exact HO.out)
        rw [List.take_of_length_le (by omega)] at this
        unfold casesS
        rw [List.take_of_length_le (by omega)]
        exact this)
      clear hlt hq hq10
      go_wp2_with fail
      go_ret
      exact ⟨_, rfl, HC.out, HU.out⟩
end Go.Proofs.Ytaphlhggmdhffaa
