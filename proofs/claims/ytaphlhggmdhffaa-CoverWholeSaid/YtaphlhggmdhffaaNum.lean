import Derived.Test.YtaphlhggmdhffaaSame
import Derived.Deep.MidRow
namespace Go.Proofs.Ytaphlhggmdhffaa
open Go.RowKit
set_option linter.unusedVariables false
set_option linter.unusedSimpArgs false
/-- The number of the case of a name. -/
def NumP (C : Names) (y : ByteArray) (n : Int) : Prop := (n = -1 ∧ y ∉ C) ∨ ∃ i : Nat, n = i ∧ C[i]? = some y ∧ y ∉ C.take i
theorem size32 : (Try.prog.info? 32).map (·.size) = some 2 := by kernel_rfl
theorem not_step {C : Names} {q : Nat} {c y : ByteArray} (h : y ∉ C.take q) (hc : C[q]? = some c) (e : ¬ c = y) : y ∉ C.take (q + 1) := by
  rw [List.take_add_one, hc, List.mem_append]
  rintro (h' | h')
  · exact h h'
  · simp at h'; exact e h'.symm
set_option maxHeartbeats 4000000 in
set_option maxRecDepth 100000 in
theorem number_any (u : Value) (C : Names) (s : ByteArray) (hs : s.size ≤ 140737488351232) (w : World) (hC : CS w u C) :
    Calls Try.prog 11 #[u, .string s] w fun e w' => (∃ n, e = .returned (.int .i64 n) ∧ NumP C (La s) n) ∧ Upd (fun _ => False) w w' := by
  obtain ⟨ao, ca, rfl, hca, hcm, hC⟩ := hC
  have HC := Lib.hid hC
  have HS := Lib.hid hs
  clear hC hs
  go_enter Try.func11, Try.ntmps11
  go_wp2_with fail
  go_loopw [9] (fun i wr => ∃ q : Nat, i = .int .i64 q ∧ q ≤ C.length ∧ La s ∉ C.take q ∧ Upd (fun _ => False) w wr) (fun i _ => C.length - (intOf i).toNat)
  case atStart => exact ⟨0, rfl, Nat.zero_le _, by simp, Upd.refl _ _⟩
  case round =>
    obtain ⟨q, rfl, hq, hn, hu⟩ := hrel
    have HN := Lib.hid hn
    have HU := Lib.hid hu
    clear hn hu
    by_cases hlt : q < C.length
    · obtain ⟨b, off, rfl, hc⟩ : ∃ b off, ao = some ⟨b, off, none⟩ ∧ ∀ i (h : i < C.length), w.rangeAt b (off + i * 2) [.string C[i], .slice none 0 0] := by
        rcases HC.out with h | h
        · rw [h] at hlt; simp at hlt
        · exact h
      have hr := hc q hlt
      obtain ⟨c, hc?⟩ : ∃ c, C[q]? = some c := ⟨_, List.getElem?_eq_getElem hlt⟩
      have hce : C[q] = c := by rw [List.getElem?_eq_getElem hlt] at hc?; exact Option.some.inj hc?
      rw [hce] at hr
      have HR := Lib.hid (show wr.rangeAt b (off + q * 2) [.string c, .slice none 0 0] from fun j v hv => HU.out.cell_some (hr j v hv) (fun h => h))
      have HCq := Lib.hid hc?
      have f1 : (q : Int) < (C.length : Int) := by omega
      have f0 : (0 : Int) ≤ (q : Int) := by omega
      have f3 : decide (q < C.length) = true := by simp; omega
      have f4 : q + 1 ≤ C.length := by omega
      clear hc hr hc? hce hlt hq
      go_wp2_with (refine wpList_load_mid rfl 32 (.tmp 12) rfl b (off + q * 2) (by first | rfl | (congr 3)) [.string c, .slice none 0 0] _ HR.out Try.underlying32 rfl size32 ?_)
      have HW := Lib.hid (HU.out.alloc (.cells #[Value.string c, Value.slice none 0 0] 32))
      have g1 := World.cell?_alloc_new wr #[Value.string c, Value.slice none 0 0] 32
      by_cases e : c = La s
      · have e5 : (c.toList == (La s).toList) = true := by rw [e]; simp
        have HE := Lib.hid (show NumP C (La s) (q : Int) from .inr ⟨q, rfl, by rw [HCq.out, e], HN.out⟩)
        go_quiet ((go_at_call 17; refine Calls.quiet_of_same (cl_any s HS.out _)))
        go_wp2_with fail
        go_ret
        exact ⟨⟨_, rfl, HE.out⟩, HW.out.drewN _⟩
      · have e5 := tl_ne e
        have HE := Lib.hid (not_step HN.out HCq.out e)
        go_quiet ((go_at_call 17; refine Calls.quiet_of_same (cl_any s HS.out _)))
        go_wp2_with fail
        go_roundw
        case rel => exact ⟨q + 1, by go_num, f4, HE.out, HW.out.drewN _⟩
        case measure => simp [intOf]; omega
    · have hqC : q = C.length := by omega
      have f3 : decide (q < C.length) = false := by simp; omega
      have f1 : ¬ ((q : Int) < (C.length : Int)) := by omega
      have HE := Lib.hid (show NumP C (La s) (-1) from .inl ⟨rfl, by have := HN.out; rwa [hqC, List.take_length] at this⟩)
      clear hlt hq
      go_wp2_with fail
      go_ret
      exact ⟨⟨_, rfl, HE.out⟩, HU.out⟩
end Go.Proofs.Ytaphlhggmdhffaa
