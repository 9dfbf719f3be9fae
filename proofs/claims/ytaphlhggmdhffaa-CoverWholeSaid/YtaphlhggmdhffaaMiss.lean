import Derived.Test.YtaphlhggmdhffaaCases
namespace Go.Proofs.Ytaphlhggmdhffaa
open Go.RowKit
set_option linter.unusedVariables false
set_option linter.unusedSimpArgs false
/-- How often a name is among the first q. -/
def cntTo (L : Names) (q : Nat) (y : ByteArray) : Nat := ((L.take q).map La).countP (fun x => decide (x = y))
theorem cntTo_step {L : Names} {q : Nat} {s : ByteArray} (h : L[q]? = some s) : cntTo L (q + 1) = fun y => if y = La s then cntTo L q (La s) + 1 else cntTo L q y := by
  funext y
  unfold cntTo
  rw [casesS_step h, List.countP_append]
  by_cases e : y = La s
  · subst e
    simp
  · rw [if_neg e]
    have : decide (La s = y) = false := by simp; exact fun h => e h.symm
    simp [this]
theorem cntTo_le (L : Names) (q : Nat) (y : ByteArray) : cntTo L q y ≤ q := by
  unfold cntTo
  refine Nat.le_trans List.countP_le_length ?_
  rw [List.length_map, List.length_take]
  omega
theorem cntTo_pos (L : Names) (q : Nat) (y : ByteArray) : 0 < cntTo L q y ↔ y ∈ (L.take q).map La := by
  unfold cntTo
  rw [List.countP_pos_iff]
  constructor
  · rintro ⟨x, hx, e⟩
    have : x = y := by simpa using e
    exact this ▸ hx
  · exact fun h => ⟨y, h, by simp⟩
theorem cntTo_zero (L : Names) : cntTo L 0 = fun _ => 0 := by
  funext y; simp [cntTo]
theorem SS.read {w : World} {ao : Option Addr} {L : Names} (h : L = [] ∨ ∃ b off, ao = some ⟨b, off, none⟩ ∧ ∀ i (h : i < L.length), w.cell? ⟨b, off + i, none⟩ = some (.string L[i])) {q : Nat} (hq : q < L.length) :
    ∃ b off s, ao = some ⟨b, off, none⟩ ∧ L[q]? = some s ∧ w.cell? ⟨b, off + q, none⟩ = some (.string s) := by
  rcases h with h | ⟨b, off, h, hc⟩
  · rw [h] at hq; simp at hq
  · obtain ⟨s, h1, h2⟩ := SS.at hc q hq
    exact ⟨b, off, s, h, h1, h2⟩
theorem CS.read {w : World} {ao : Option Addr} {L : Names} (h : L = [] ∨ ∃ b off, ao = some ⟨b, off, none⟩ ∧ ∀ i (h : i < L.length), w.rangeAt b (off + i * 2) [.string L[i], .slice none 0 0]) {q : Nat} (hq : q < L.length) :
    ∃ b off s, ao = some ⟨b, off, none⟩ ∧ L[q]? = some s ∧ w.rangeAt b (off + q * 2) [.string s, .slice none 0 0] := by
  rcases h with h | ⟨b, off, h, hc⟩
  · rw [h] at hq; simp at hq
  · exact ⟨b, off, L[q], h, List.getElem?_eq_getElem hq, hc q hq⟩
set_option maxHeartbeats 4000000 in
set_option maxRecDepth 100000 in
/-- cover.counted. -/
theorem counted_any (u : Value) (L : Names) (w : World) (hL : SS w u L) (hz : Sz L) (hn : L.length ≤ 1000) :
    Calls Try.prog 16 #[u] w fun e w' => ∃ B, e = .returned (.map (some B)) ∧ MC w' B L.length (cntTo L L.length) ∧ w.heap.size ≤ B ∧ Upd (fun _ => False) w w' := by
  obtain ⟨ao, ca, rfl, hca, hcm, hL⟩ := hL
  have HL := Lib.hid hL
  have HZ := Lib.hid hz
  clear hL hz
  have hmm := @run_makeMap Try.prog
  go_enter Try.func16, Try.ntmps16
  go_wp2_with fail
  go_loopw [9] (fun i wr => ∃ q : Nat, i = .int .i64 q ∧ q ≤ L.length ∧ MC wr w.heap.size q (cntTo L q) ∧ Upd (fun _ => False) w wr) (fun i _ => L.length - (intOf i).toNat)
  case atStart => exact ⟨0, rfl, Nat.zero_le _, by rw [cntTo_zero]; exact MC.made w, (Upd.refl _ _).alloc _⟩
  case round =>
    obtain ⟨q, rfl, hq, hm, hu⟩ := hrel
    have HM := Lib.hid hm
    have HU := Lib.hid hu
    clear hm hu
    by_cases hlt : q < L.length
    · obtain ⟨b, off, s, rfl, hs, c1⟩ := SS.read HL.out hlt
      have c1 := HU.out.cell_some c1 (fun h => h)
      have HS := Lib.hid (cntTo_step hs)
      have HSZ := Lib.hid (HZ.out s (List.mem_of_getElem? hs))
      have HSL := Lib.hid (show (La s).size ≤ 140737488351232 by have := La_size s; have := HSZ.out; omega)
      have f1 : (q : Int) < (L.length : Int) := by omega
      have f0 : (0 : Int) ≤ (q : Int) := by omega
      have f3 : decide (q < L.length) = true := by simp; omega
      have f4 : q + 1 ≤ L.length := by omega
      have f5 := cntTo_le L q (La s)
      clear hs hlt hq
      go_wp2_with fail
      refine (cl_any s HSZ.out _).mono ?_
      rintro e w' ⟨rfl, rfl⟩
      go_wp2_with (first
        | (at_lookup; refine wpList_lookC rfl _ _ rfl w.heap.size q (cntTo L q) rfl HM.out (La s) HSL.out rfl ?_)
        | (at_mapUpdate; refine wpList_putC rfl _ _ _ rfl w.heap.size q (cntTo L q) rfl HM.out (by omega) (La s) HSL.out rfl (cntTo L q (La s) + 1) (by omega) (by first | rfl | go_num) ?c5))
      case c5 =>
      intro w5 h5 hu5
      have HM5 := Lib.hid (show MC w5 w.heap.size (q + 1) (cntTo L (q + 1)) by rw [HS.out]; exact h5)
      have HU5 := Lib.hid (HU.out.trans hu5 (fun j hj e => by omega))
      clear h5 hu5
      go_wp2_with fail
      go_roundw
      case rel => exact ⟨q + 1, by go_num, f4, HM5.out, HU5.out⟩
      case measure => simp [intOf]; omega
    · have hq' : q = L.length := by omega
      subst hq'
      have f1 : ¬ ((L.length : Int) < (L.length : Int)) := by omega
      clear hlt hq
      go_wp2_with fail
      go_ret
      exact ⟨_, rfl, HM.out, Nat.le_refl _, HU.out⟩
end Go.Proofs.Ytaphlhggmdhffaa
