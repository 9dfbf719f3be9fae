import Derived.Test.YtbpeoclhabgcgaaParts
namespace Go.Proofs.Ytbpeoclhabgcgaa
open Go.RowKit
set_option linter.unusedVariables false
set_option linter.unusedSimpArgs false

theorem stopped_number (l : List UInt8) (most : Int) : RS.number ⟨l, 0, 30, 0⟩ most = (⟨l, 0, 30, 0⟩, 0) := by simp [RS.number]
theorem stopped_signed (l : List UInt8) : RS.signed ⟨l, 0, 30, 0⟩ = (⟨l, 0, 30, 0⟩, 0) := by simp [RS.signed, stopped_number, unzig]
theorem stopped_take (l : List UInt8) (n : Int) : RS.take ⟨l, 0, 30, 0⟩ n = ⟨l, 0, 30, 0⟩ := by simp [RS.take]
theorem stopped_took (l : List UInt8) (n : Int) : RS.took ⟨l, 0, 30, 0⟩ n = [] := by simp [RS.took]
theorem stopped_text (l : List UInt8) (n : Int) : RS.text ⟨l, 0, 30, 0⟩ n = (⟨l, 0, 30, 0⟩, []) := by simp [RS.text, stopped_number, stopped_take, stopped_took]
theorem stopped_left (l : List UInt8) : RS.left ⟨l, 0, 30, 0⟩ = 0 := by simp [RS.left]
theorem stopped_fin (l : List UInt8) : RS.fin ⟨l, 0, 30, 0⟩ = (30, 0) := by simp [RS.fin]
theorem stopped_refuse (l : List UInt8) (y n : Int) : RS.refuse ⟨l, 0, 30, 0⟩ y n = ⟨l, 0, 30, 0⟩ := by simp [RS.refuse]

set_option maxHeartbeats 1600000 in
set_option maxRecDepth 100000 in
theorem stops_any (v u : Value) (l : List UInt8) (L : List PartV) (w : World) (hb : Bytes w v l) (hl : l.length ≤ 140737488351232) (hp : Parts w u L) :
    Calls Try.prog 9 #[v, u] w (TrueP w) := by
  have HP0 := Lib.hid hp
  obtain ⟨ao, cap, rfl, hm, _⟩ := hp
  have hmm : L.length ≤ 9223372036854775807 := by unfold maxLen at hm; exact hm
  clear hm
  go_enter Try.func9, Try.ntmps9
  go_wp2_with fail
  refine (newReader_any _ _ _ hb (by omega)).mono ?_
  rintro e w1 ⟨b, vs, rfl, hb1, hb2, hr, hu⟩
  have HR1 := Lib.hid hr
  have HU1 := Lib.hid hu
  have HB := Lib.hid hb1
  clear hr hu hb1 hb2 hb hl
  go_wp2_with fail
  refine (rfail_any b vs _ 30 _ HR1.out).mono ?_
  intro e w2 hp
  rw [show RS.refuse ⟨l, 0, 0, 0⟩ 30 ((0 : Nat) : Int) = ⟨l, 0, 30, 0⟩ by simp [RS.refuse]] at hp
  obtain ⟨rfl, hr2, hu2⟩ := hp
  have HR2 := Lib.hid hr2
  have HU2 := Lib.hid (HU1.out.new (fun k (h : k = b) => h ▸ HB.out) hu2)
  clear hr2 hu2
  go_wp2
  go_loopw [6] (fun i wr => ∃ k : Nat, i = .int .i64 k ∧ k ≤ 20 ∧ k ≤ L.length ∧ Rd wr b vs ⟨l, 0, 30, 0⟩ ∧ Upd (fun _ => False) w wr) (fun i _ => 20 - (intOf i).toNat)
  case atStart => exact ⟨0, rfl, by omega, by omega, HR2.out, HU2.out⟩
  case round =>
    obtain ⟨k, rfl, hk20, hkL, hr, hu⟩ := hrel
    have HR := Lib.hid hr
    have HU := Lib.hid hu
    have HPr := Lib.hid (HP0.out.upd hu)
    clear hr hu
    by_cases hlt : k < L.length
    · by_cases hk : k < 20
      · obtain ⟨bo, of, rfl, hpa⟩ : ∃ bo of, ao = some ⟨bo, of, none⟩ ∧ PartAt w bo (of + k * 4) L[k] := by
          obtain ⟨ao', cap', hv, _, hh⟩ := HP0.out
          simp only [Value.slice.injEq] at hv
          obtain ⟨rfl, _, rfl⟩ := hv
          rcases hh with rfl | ⟨bo, of, rfl, hc⟩
          · simp at hlt
          · exact ⟨bo, of, rfl, hc k hlt⟩
        obtain ⟨_, _, m0, m1, ⟨n0, n1⟩, _⟩ := hpa.ok
        generalize L[k] = x at *
        have HA := Lib.hid hpa
        have g2 := (hpa.upd HU.out (fun h => h)).c2
        clear hpa
        go_wp2_with fail
        refine (rnum_any b vs _ x.n _ HR.out).mono ?_
        intro e w3 hp
        unfold RNumP at hp
        rw [stopped_number] at hp
        obtain ⟨rfl, hr3, hu3⟩ := hp
        have HR3 := Lib.hid hr3
        have HU3 := Lib.hid (HU.out.new (fun k (h : k = b) => h ▸ HB.out) hu3)
        clear hr3 hu3 g2
        go_wp2_with fail
        refine (rsigned_any b vs _ _ HR3.out).mono ?_
        intro e w4 hp
        rw [stopped_signed] at hp
        obtain ⟨rfl, hr4, hu4⟩ := hp
        have HR4 := Lib.hid hr4
        have HU4 := Lib.hid (HU3.out.new (fun k (h : k = b) => h ▸ HB.out) hu4)
        have g1 := (HA.out.upd HU4.out (fun h => h)).c1
        clear hr4 hu4
        go_wp2_with fail
        refine (rtext_any b vs _ x.most _ HR4.out m1).mono ?_
        intro e w5 hp
        unfold TextP at hp
        rw [stopped_text, show strOf [] = { data := #[] } from rfl] at hp
        obtain ⟨rfl, hr5, hu5⟩ := hp
        have HR5 := Lib.hid hr5
        have HU5 := Lib.hid (HU4.out.new (fun k (h : k = b) => h ▸ HB.out) hu5)
        clear g1
        have g1 := (HA.out.upd HU5.out (fun h => h)).c1
        clear hr5 hu5
        go_wp2_with fail
        refine (rraw_any b vs _ x.most _ HR5.out m1).mono ?_
        intro e w6 hp
        unfold RawP at hp
        rw [stopped_take, stopped_took] at hp
        obtain ⟨v6, rfl, ho6, hr6, hu6⟩ := hp
        obtain ⟨a6, cap6, rfl⟩ := own_shape ho6
        have HR6 := Lib.hid hr6
        have HU6 := Lib.hid (HU5.out.new (fun k (h : k = b) => h ▸ HB.out) hu6)
        clear hr6 hu6 ho6 g1
        go_wp2_with fail
        refine (rleft_any b vs _ _ HR6.out).mono ?_
        intro e w7 hp
        rw [stopped_left] at hp
        obtain ⟨rfl, n7, rfl⟩ := hp
        go_wp2_with fail
        refine (rfail_any b vs _ 13 _ (Rd_drewN HR6.out n7)).mono ?_
        intro e w8 hp
        rw [stopped_refuse] at hp
        obtain ⟨rfl, hr8, hu8⟩ := hp
        have HR8 := Lib.hid hr8
        have HU8 := Lib.hid ((HU6.out.drewN n7).new (fun k (h : k = b) => h ▸ HB.out) hu8)
        clear hr8 hu8
        go_wp2
        go_roundw
        case rel => exact ⟨k + 1, by go_num, by omega, by omega, HR8.out, HU8.out⟩
        case measure => simp [intOf]; omega
      · have hk20' : 20 ≤ k := by omega
        have f1 : decide (k < L.length) = true := by simp [hlt]
        go_wp2_with fail
        refine (rend_any b vs _ _ HR.out).mono ?_
        intro e w3 hp
        rw [stopped_fin] at hp
        obtain ⟨rfl, n3, rfl⟩ := hp
        go_wp2_with fail
        refine (known_any _).mono ?_
        rintro e w4 ⟨rfl, hu4⟩
        have HU4 := Lib.hid hu4
        clear hu4
        go_wp2
        go_ret
        exact ⟨rfl, (HU.out.drewN n3).trans' HU4.out⟩
    · have f1 : decide (k < L.length) = false := by simp; omega
      clear hlt
      go_wp2_with fail
      refine (rend_any b vs _ _ HR.out).mono ?_
      intro e w3 hp
      rw [stopped_fin] at hp
      obtain ⟨rfl, n3, rfl⟩ := hp
      go_wp2_with fail
      refine (known_any _).mono ?_
      rintro e w4 ⟨rfl, hu4⟩
      have HU4 := Lib.hid hu4
      clear hu4
      go_wp2
      go_ret
      exact ⟨rfl, (HU.out.drewN n3).trans' HU4.out⟩
end Go.Proofs.Ytbpeoclhabgcgaa
