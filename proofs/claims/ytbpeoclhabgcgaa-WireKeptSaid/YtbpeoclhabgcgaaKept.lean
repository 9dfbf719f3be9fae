import Derived.Test.YtbpeoclhabgcgaaApart
namespace Go.Proofs.Ytbpeoclhabgcgaa
open Go.RowKit
set_option linter.unusedVariables false
set_option linter.unusedSimpArgs false

theorem Bk.upd {S : Nat → Prop} {w w' : World} {B k : Nat} {E : List Ent} (h : Bk w B k E) (hu : Upd S w w') (h0 : ¬ S k) (h1 : ∀ j, B ≤ j → j < w.heap.size → ¬ S j) : Bk w' B k E := by
  obtain ⟨Lv, Wv, s, hc, he⟩ := h
  exact ⟨Lv, Wv, s, hc.upd hu h0 h1, he.upd hu (fun j hj hl e => absurd e (h1 j hj hl))⟩
theorem Bk.fresh {S : Nat → Prop} {w w' : World} {B k : Nat} {E : List Ent} {v : Value} (h : Bk w B k E) (hu : Upd S w w') (h0 : ¬ S k) (hv : ∀ j, v.ownBlock = some j → w.heap.size ≤ j) :
    (∀ Lv Wv s, w'.heap[k]? = some (.cells #[Lv, Wv, .int .i64 s, .bool false] 43 (0, 0)) → ∀ j, v.ownBlock = some j → Lv.ownBlock ≠ some j ∧ Wv.ownBlock ≠ some j) ∧ ∀ j, v.ownBlock = some j → ∀ e ∈ E, e.v.ownBlock ≠ some j := by
  obtain ⟨Lv, Wv, s, hc, he⟩ := h
  refine ⟨fun Lv' Wv' s' hk j hj => ?_, fun j hj e hm hn => ?_⟩
  · have h2 := hu.heap_some hc.cell h0
    rw [h2] at hk
    simp only [Option.some.injEq, Obj.cells.injEq, Array.mk.injEq, List.cons.injEq, and_true] at hk
    obtain ⟨rfl, rfl, _⟩ := hk
    have hj' := hv j hj
    exact ⟨fun e => by have := (hc.lst.lt j e).2; omega, fun e => by have := (hc.was.lt j e).2; omega⟩
  · have := ((he.v e hm).lt j hn).2
    have := hv j hj
    omega
theorem Wr.keep {S : Nat → Prop} {w w' : World} {a : Nat} {v : Value} {l : List UInt8} (h : Wr w a v l) (hu : Upd S w w') (ha : ¬ S a) (hv : ∀ k, v.ownBlock = some k → ¬ S k) : Wr w' a v l :=
  ⟨hu.heap_some h.cell ha, ownsRow_upd h.own hu hv⟩

set_option maxHeartbeats 2000000 in
set_option maxRecDepth 100000 in
theorem kept_any (v : Value) (l : List UInt8) (w : World) (hb : Bytes w v l) (hl : l.length ≤ 140737488351232) : Calls Try.prog 5 #[v] w (TrueP w) := by
  have HB := Lib.hid hb
  obtain ⟨ao, cap, rfl, _⟩ := hb.shape
  clear hb
  go_enter Try.func5, Try.ntmps5
  go_wp2_with fail
  refine (newWriter_any _).mono ?_
  rintro e w1 ⟨a, rfl, ha, hw, hu⟩
  have ha' : w.heap.size < a := by simp at ha; omega
  have hk0 := heap_alloc_new w (.cells #[.slice none 0 0, .slice none 0 0, .int .i64 0, .bool false] 43)
  have HK1 := Lib.hid (hu.heap_some hk0 (fun h => h))
  have HU1 : Hid (Upd (fun _ => False) w w1) := ((Upd.refl (fun _ => False) w).alloc _).trans' hu
  have HW1 := Lib.hid hw
  have HA := Lib.hid ha'
  generalize hk : w.heap.size = k at *
  have HKK := Lib.hid hk
  clear hu hw ha ha' hk0 hk
  go_wp2_with fail
  refine (newReader_any _ l _ (Bytes_upd HB.out HU1.out (fun _ _ h => h)) (by omega)).mono ?_
  rintro e w2 ⟨a2, vs, rfl, ha2, hvs, hr, hu⟩
  have HU2 := Lib.hid hu
  have HR2 := Lib.hid hr
  have HA2 := Lib.hid ha2
  have HVS := Lib.hid hvs
  clear hu hr ha2 hvs
  go_wp2_with fail
  refine (wraw_any a _ _ [] l _ (HW1.out.keep HU2.out (fun h => h) (fun _ _ h => h)) (Bytes_upd HB.out (HU1.out.trans' HU2.out) (fun _ _ h => h)) (by simp; omega)).mono ?_
  rintro e w3 ⟨rfl, v3, hw3, hu3, hv3⟩
  have HU3 := Lib.hid hu3
  have HW3 : Hid (Wr w3 a v3 l) := hw3
  have HV3 : Hid (∀ j, v3.ownBlock = some j → w2.heap.size ≤ j) := fun j hj => by
    rcases hv3 j hj with h | h
    · simp [Value.ownBlock] at h
    · exact h
  clear hu3 hw3 hv3
  have hlt1 := HW1.out.lt
  have hs2 := HU2.out.size
  have hs3 := HU3.out.size
  have hltr := HR2.out.lt
  have hka := HA.out
  have ha2 := HA2.out
  have HR3 : Hid (Rd w3 a2 vs ⟨l, 0, 0, 0⟩) := HR2.out.upd HU3.out (fun j _ hj h => by
    rcases h with h | h
    · subst h
      rcases hj with h2 | h2
      · omega
      · have := HVS.out j h2; omega
    · simp [Value.ownBlock] at h)
  obtain ⟨B, hB⟩ : ∃ B, B = w3.heap.size := ⟨_, rfl⟩
  have HBk : Hid (Bk w3 B k []) := ⟨.slice none 0 0, .slice none 0 0, 0, ⟨HU3.out.heap_some (HU2.out.heap_some HK1.out (fun h => h)) (fun h => by
      rcases h with h | h
      · omega
      · simp [Value.ownBlock] at h), by omega, Lst.nil _ _ _, Lst.nil _ _ _, fun j h => by simp [Value.ownBlock] at h⟩, ⟨fun _ h => (by cases h), fun _ h => (by cases h), fun _ h => (by cases h), fun _ h => (by cases h), fun _ h => (by cases h), List.Pairwise.nil⟩⟩
  have hka2 : k < a2 := by omega
  have haB : a < B := by omega
  have ha2B : a2 < B := by omega
  have haa : a < a2 := by omega
  have HV3B : Hid (∀ j, v3.ownBlock = some j → a2 < j ∧ j < B) := fun j hj => by have := HV3.out j hj; have := (HW3.out.own.lt j hj).2; omega
  have HVSB : Hid (∀ j, vs.ownBlock = some j → k < j ∧ j < B ∧ j ≠ a2) := fun j hj => by
    have := HVS.out j hj; have := (HR3.out.own.lt j hj).2
    exact ⟨by omega, by omega, fun e => HR3.out.apart (by rw [hj, e])⟩
  clear hlt1 hs2 hs3 hltr
  go_wp2_with fail
  go_loopw [6] (fun i wr => ∃ (q : Nat) (E : List Ent) (r : RS), i = .int .i64 q ∧ q ≤ 2 ∧ E.length ≤ 2 * q ∧ Bk wr B k E ∧ Wr wr a v3 l ∧ Rd wr a2 vs r ∧ Upd (fun j => j = k ∨ j = a2 ∨ B ≤ j) w3 wr) (fun i _ => 2 - (intOf i).toNat)
  case atStart => exact ⟨0, [], _, rfl, by omega, by simp, HBk.out, HW3.out, HR3.out, Upd.refl _ _⟩
  case round =>
    obtain ⟨q, E, r, rfl, hq, hE, hbk, hwr, hrd, hur⟩ := hrel
    have HBr := Lib.hid hbk
    have HWr := Lib.hid hwr
    have HRr := Lib.hid hrd
    have HUr := Lib.hid hur
    clear hbk hwr hrd hur
    by_cases hlt : q < 2
    · have f1 : decide ((q : Int) < 2) = true := by simp; omega
      go_wp2_with fail
      refine (done_any a v3 l _ HWr.out (by omega)).mono ?_
      rintro e w4 ⟨v4, rfl, ho4, hu4⟩
      have hf4 := HBr.out.fresh hu4 (fun h => h) (fun j hj => (ho4.lt j hj).1)
      have HB4 := Lib.hid (HBr.out.upd hu4 (fun h => h) (fun _ _ _ h => h))
      have HW4 := Lib.hid (HWr.out.keep hu4 (fun h => h) (fun _ _ h => h))
      have HR4 := Lib.hid (HRr.out.upd hu4 (fun _ _ _ h => h))
      have HU4 := Lib.hid (HUr.out.trans hu4 (fun _ _ h => h.elim))
      have HO4 := Lib.hid (ownsRow_base (base' := B) ho4 (fun j hj => by have := (ho4.lt j hj).1; have := HUr.out.size; omega))
      have HF4 := Lib.hid hf4
      clear hf4 hu4 ho4
      go_wp2_with fail
      refine (keep_any B k E v4 l _ HB4.out (by omega) (by have := HU4.out.size; omega) HO4.out (by omega) HF4.out.1 HF4.out.2).mono ?_
      rintro e w5 ⟨rfl, ⟨E5, hE5, hb5⟩, hu5⟩
      have HB5 := Lib.hid hb5
      have HW5 := Lib.hid (HW4.out.keep hu5 (fun h => by omega) (fun j hj h => by have := HV3B.out j hj; omega))
      have HR5 := Lib.hid (HR4.out.upd hu5 (fun j _ hj h => by
        rcases hj with rfl | hj
        · omega
        · have := HVSB.out j hj; omega))
      have HU5 := Lib.hid (HU4.out.trans hu5 (fun j _ h => by omega))
      clear hb5 hu5
      go_wp2_with fail
      refine (rraw_any a2 vs r 2 _ HR5.out (by omega)).mono ?_
      rintro e w6 ⟨v6, rfl, ho6, hp6⟩
      have hf6 := HB5.out.fresh hp6.2 (fun h => by omega) (fun j hj => (ho6.lt j hj).1)
      have HB6 := Lib.hid (HB5.out.upd hp6.2 (fun h => by omega) (fun _ _ _ h => by omega))
      have HW6 := Lib.hid (HW5.out.keep hp6.2 (fun h => by omega) (fun j hj h => by have := HV3B.out j hj; omega))
      have HR6 := Lib.hid hp6.1
      have HU6 := Lib.hid (HU5.out.trans hp6.2 (fun j _ h => by omega))
      have HO6 := Lib.hid (ownsRow_base (base' := B) ho6 (fun j hj => by have := (ho6.lt j hj).1; have := HU5.out.size; omega))
      have HF6 := Lib.hid hf6
      have hl6 : (r.took (max 2 0)).length ≤ 140737488355328 := by have := took_len r (max 2 0); have := HRr.out.small; omega
      clear hf6 hp6 ho6
      go_wp2_with fail
      refine (keep_any B k E5 v6 _ _ HB6.out (by omega) (by have := HU6.out.size; omega) HO6.out hl6 HF6.out.1 HF6.out.2).mono ?_
      rintro e w7 ⟨rfl, ⟨E7, hE7, hb7⟩, hu7⟩
      have HB7 := Lib.hid hb7
      have HW7 := Lib.hid (HW6.out.keep hu7 (fun h => by omega) (fun j hj h => by have := HV3B.out j hj; omega))
      have HR7 := Lib.hid (HR6.out.upd hu7 (fun j _ hj h => by
        rcases hj with rfl | hj
        · omega
        · have := HVSB.out j hj; omega))
      have HU7 := Lib.hid (HU6.out.trans hu7 (fun j _ h => by omega))
      clear hb7 hu7
      go_wp2_with fail
      go_roundw
      case rel => exact ⟨q + 1, E7, _, by go_num, by omega, by omega, HB7.out, HW7.out, HR7.out, HU7.out⟩
      case measure => simp [intOf]; omega
    · have f1 : decide ((q : Int) < 2) = false := by simp; omega
      clear hlt
      go_wp2_with fail
      refine (apart_any B k E _ HBr.out (by omega)).mono ?_
      rintro e w8 ⟨rfl, hu8⟩
      have HU8 := Lib.hid (HUr.out.trans hu8 (fun j _ h => by omega))
      clear hu8
      go_wp2_with fail
      refine (known_any _).mono ?_
      rintro e w9 ⟨rfl, hu9⟩
      have HU9 := Lib.hid (HU8.out.trans hu9 (fun j _ h => h.elim))
      clear hu9
      go_wp2
      go_ret
      refine ⟨rfl, ?_⟩
      refine ((HU1.out.trans' HU2.out).trans HU3.out (fun j hj h => ?_)).trans HU9.out (fun j hj h => ?_)
      · rcases h with h | h
        · have := HKK.out; omega
        · simp [Value.ownBlock] at h
      · have := HKK.out; omega
end Go.Proofs.Ytbpeoclhabgcgaa
