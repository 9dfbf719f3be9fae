import Derived.Test.YtbpeoclhabgcgaaNumF
import Derived.Test.YtbpeoclhabgcgaaBook
/-
  CODEREADS: the walk.
-/
namespace Go.Proofs.Ytbpeoclhabgcgaa
open Go.RowKit
set_option linter.unusedVariables false
set_option linter.unusedSimpArgs false
theorem bytes_take {w : World} {ao : Option Addr} {n cap p : Nat} {l : List UInt8} (h : Bytes w (.slice ao n cap) l) (hp : p ≤ l.length) : Bytes w (.slice ao p cap) (l.take p) := by
  obtain ⟨ao', cap', e, h1, h2, h3⟩ := h
  injection e with e1 e2 e3; subst e1 e2 e3
  refine ⟨_, _, by rw [List.length_take, Nat.min_eq_left hp], by rw [List.length_take]; omega, h2, ?_⟩
  rcases h3 with rfl | ⟨b, off, rfl, hc⟩
  · exact .inl (by simp)
  · refine .inr ⟨b, off, rfl, fun i hi => ?_⟩
    rw [List.length_take] at hi
    rw [List.getElem_take]
    exact hc i (by omega)
set_option maxHeartbeats 16000000 in
set_option maxRecDepth 100000 in
theorem creads_any (v : Value) (l : List UInt8) (w : World) (hb : Bytes w v l) (hl : l.length ≤ 140737488351232) :
    Calls Try.prog 11 #[v] w fun e w' => e = .returned (.bool true) ∧ Upd (fun _ => False) w w' := by
  have HB := Lib.hid hb
  obtain ⟨ao, cap, rfl, hlc, _, _⟩ := hb
  by_cases h22 : l.length ≤ 2200
  · have k0 : decide ((2200 : Int) < (l.length : Int)) = false := by simp; omega
    go_enter Try.func11, Try.ntmps11
    go_wp2_with fail
    refine (roomy_any _ l w HB.out (by omega)).mono ?_
    rintro e w1 ⟨g, he, hg, ho1, hu1⟩
    have HF0 := Lib.hid (Bytes_own (l := l ++ List.replicate 80 165) (by simpa using ho1))
    have HL := Lib.hid (show Bytes w1 (.slice (some ⟨g, 0, none⟩) l.length (l.length + 80)) l by
      have := bytes_take (p := l.length) HF0.out (by simp)
      rw [List.take_left] at this
      simpa using this)
    subst he
    have HU1 := Lib.hid hu1
    clear ho1 hu1 hg
    go_wp2_with fail
    refine (cdec_any _ l _ HL.out (by omega)).mono ?_
    rintro e w2 ⟨hu2, V, L, er, at_, ho, hi, hr, rfl⟩
    have HO := Lib.hid ho
    have HR := Lib.hid hr
    have HU2 := Lib.hid (HU1.out.trans' hu2)
    have HF1 := Lib.hid (Bytes_upd HF0.out hu2 (fun _ _ e => e))
    have HI := Lib.hid hi
    clear ho hr hi hu2 HF0 HL
    go_wp2_with fail
    refine (rdec_any _ l _ (Bytes_upd HB.out HU2.out (fun _ _ e => e)) (by omega)).mono ?_
    rintro e w3 ⟨hu3, V', L', er', at', ho', hi', _, rfl⟩
    obtain ⟨rfl, rfl, rfl⟩ := HO.out.same ho'
    have HU3 := Lib.hid (HU2.out.trans' hu3)
    have HF := Lib.hid (Bytes_upd HF1.out hu3 (fun _ _ e => e))
    have HI3 := Lib.hid (HI.out.upd hu3)
    have HI3' := Lib.hid hi'
    clear ho' hi' hu3 HF1 HI
    go_wp2_with fail
    refine (insts_all V V' L w3 HI3.out HI3'.out HR.out).mono ?_
    rintro e w4 ⟨rfl, hu4⟩
    have HU4 := Lib.hid (HU3.out.trans' hu4)
    have HF4 := Lib.hid (Bytes_upd HF.out hu4 (fun _ _ e => e))
    clear hu4
    go_wp2_with fail
    refine (intact_eq _ _ l _ HF4.out (Bytes_upd HB.out HU4.out (fun _ _ e => e)) (by omega)).mono ?_
    rintro e w5 ⟨rfl, n, rfl⟩
    go_wp2_with fail
    refine (known13 _).mono ?_
    rintro e w6 ⟨rfl, hu6⟩
    go_wp2_with fail
    go_ret
    exact ⟨rfl, (HU4.out.drewN n).trans' hu6⟩
  · have k0 : decide ((2200 : Int) < (l.length : Int)) = true := by simp; omega
    have hb2 := bytes_take (p := 2200) HB.out (by omega)
    obtain ⟨l2, hl2⟩ : ∃ l2, l2 = l.take 2200 := ⟨_, rfl⟩
    rw [← hl2] at hb2
    have h2 : l2.length = 2200 := by rw [hl2, List.length_take]; omega
    have HB2 := Lib.hid hb2
    clear hb2 hl2
    go_enter Try.func11, Try.ntmps11
    go_wp2_with fail
    refine (roomy_any _ l2 w HB2.out (by omega)).mono ?_
    rintro e w1 ⟨g, he, hg, ho1, hu1⟩
    have HF0 := Lib.hid (Bytes_own (l := l2 ++ List.replicate 80 165) (by simpa using ho1))
    rw [h2] at HF0
    have HL := Lib.hid (show Bytes w1 (.slice (some ⟨g, 0, none⟩) 2200 (2200 + 80)) l2 by
      have := bytes_take (p := 2200) HF0.out (by simp; omega)
      rw [List.take_left' h2] at this
      simpa [h2] using this)
    rw [h2] at he
    subst he
    have HU1 := Lib.hid hu1
    clear ho1 hu1 hg
    go_wp2_with fail
    refine (cdec_any _ l2 _ HL.out (by omega)).mono ?_
    rintro e w2 ⟨hu2, V, L, er, at_, ho, hi, hr, rfl⟩
    have HO := Lib.hid ho
    have HR := Lib.hid hr
    have HU2 := Lib.hid (HU1.out.trans' hu2)
    have HF1 := Lib.hid (Bytes_upd HF0.out hu2 (fun _ _ e => e))
    have HI := Lib.hid hi
    clear ho hr hi hu2 HF0 HL
    go_wp2_with fail
    refine (rdec_any _ l2 _ (Bytes_upd HB2.out HU2.out (fun _ _ e => e)) (by omega)).mono ?_
    rintro e w3 ⟨hu3, V', L', er', at', ho', hi', _, rfl⟩
    obtain ⟨rfl, rfl, rfl⟩ := HO.out.same ho'
    have HU3 := Lib.hid (HU2.out.trans' hu3)
    have HF := Lib.hid (Bytes_upd HF1.out hu3 (fun _ _ e => e))
    have HI3 := Lib.hid (HI.out.upd hu3)
    have HI3' := Lib.hid hi'
    clear ho' hi' hu3 HF1 HI
    go_wp2_with fail
    refine (insts_all V V' L w3 HI3.out HI3'.out HR.out).mono ?_
    rintro e w4 ⟨rfl, hu4⟩
    have HU4 := Lib.hid (HU3.out.trans' hu4)
    have HF4 := Lib.hid (Bytes_upd HF.out hu4 (fun _ _ e => e))
    clear hu4
    go_wp2_with fail
    refine (intact_eq _ _ l2 _ HF4.out (Bytes_upd HB2.out HU4.out (fun _ _ e => e)) (by omega)).mono ?_
    rintro e w5 ⟨rfl, n, rfl⟩
    go_wp2_with fail
    refine (known13 _).mono ?_
    rintro e w6 ⟨rfl, hu6⟩
    go_wp2_with fail
    go_ret
    exact ⟨rfl, (HU4.out.drewN n).trans' hu6⟩
end Go.Proofs.Ytbpeoclhabgcgaa
