import Derived.Test.YtbpeoclhabgcgaaRef2
import Derived.Test.YtbpeoclhabgcgaaTrip
namespace Go.Proofs.Ytbpeoclhabgcgaa
open Go.RowKit
set_option linter.unusedVariables false
set_option linter.unusedSimpArgs false

def FNumP (a : Nat) (v : Value) (r : RS) (most : Int) (w : World) (e : Ending) (w' : World) : Prop :=
  e = .returned (.int .u64 ((r.number most).2 : Int)) ∧ RfPost a v (r.number most).1 w w'

theorem RfPost.trans {a : Nat} {v : Value} {r : RS} {w w1 w2 : World} (h : Upd (fun k => k = a) w w1) (h2 : RfPost a v r w1 w2) : RfPost a v r w w2 := ⟨h2.1, h.trans' h2.2⟩

/-- One byte is taken. -/
theorem take_one {l : List UInt8} {p : Nat} (h : p < l.length) : RS.take ⟨l, p, 0, 0⟩ 1 = ⟨l, p + 1, 0, 0⟩ ∧ RS.took ⟨l, p, 0, 0⟩ 1 = [l[p]] := by
  refine ⟨by simp [RS.take]; omega, ?_⟩
  simp only [RS.took]
  rw [if_pos ⟨trivial, by omega⟩, show (1 : Int).toNat = 1 from rfl, List.drop_eq_getElem_cons h]; rfl
theorem take_none {l : List UInt8} {p : Nat} (h : p = l.length) : RS.take ⟨l, p, 0, 0⟩ 1 = ⟨l, p, 10, l.length⟩ ∧ RS.took ⟨l, p, 0, 0⟩ 1 = [] := by
  subst h
  exact ⟨by simp [RS.take], by simp [RS.took]⟩
/-- What a reader reads as that has not refused. -/
theorem Rf.clean {w : World} {a : Nat} {v : Value} {l : List UInt8} {p : Nat} {n : Int} (h : Rf w a v ⟨l, p, 0, n⟩) : Rf w a v ⟨l, p, 0, 0⟩ := by
  obtain ⟨p0, y0, n0, hc, h1, h2⟩ := h.cell
  exact ⟨⟨p0, y0, n0, hc, h1, fun h => absurd rfl h⟩, h.bytes, h.apart, h.le, h.small⟩
theorem Rf.unclean {w : World} {a : Nat} {v : Value} {l : List UInt8} {p : Nat} (n : Int) (h : Rf w a v ⟨l, p, 0, 0⟩) : Rf w a v ⟨l, p, 0, n⟩ := by
  obtain ⟨p0, y0, n0, hc, h1, h2⟩ := h.cell
  exact ⟨⟨p0, y0, n0, hc, h1, fun h => absurd rfl h⟩, h.bytes, h.apart, h.le, h.small⟩

set_option maxHeartbeats 4000000 in
set_option maxRecDepth 100000 in
theorem fnum_any (a : Nat) (v : Value) (r : RS) (most : Int) (w : World) (hr : Rf w a v r) :
    Calls Try.prog 35 #[.pointer (some ⟨a, 0, none⟩), .int .u64 most] w (FNumP a v r most w) := by
  by_cases hw : r.why = 0
  · obtain ⟨l, p, why, no⟩ := r
    simp only at hw
    subst hw
    obtain ⟨y0, n0, hc, c0, c1, c2, f1⟩ := hr.facts rfl
    have hle := hr.le
    have hsm := hr.small
    simp only at hle hsm c1
    obtain ⟨N, s, y, hN⟩ : ∃ N s y, numR (l.drop p) = (N, s, y) := ⟨_, _, _, rfl⟩
    have HQ : Hid (RS.number ⟨l, p, 0, no⟩ most = if y = 10 then (⟨l, p, 10, l.length⟩, 0) else if y ≠ 0 then (⟨l, p, y, p⟩, 0) else if most < N then (⟨l, p, 3, p⟩, 0) else (⟨l, p + s, 0, no⟩, N)) := by
      show _ = _
      simp only [RS.number, hN, if_true]
    have HN := Lib.hid hN
    have HR := Lib.hid hr.clean
    clear hc hN hr
    go_enter Try.func35, Try.ntmps35
    go_wp2
    go_loopw [6, 7] (fun n k wr => ∃ n' k' : Nat, n = .int .u64 n' ∧ k = .int .i64 k' ∧ k' ≤ 9 ∧ p + k' ≤ l.length ∧ n' < 128 ^ k' ∧ n' ≤ 18446744073709551615 ∧ numF (l.drop p) (10 - k') k' n' = (N, s, y) ∧
      Rf wr a v ⟨l, p + k', 0, 0⟩ ∧ Upd (fun i => i = a) w wr) (fun _ k _ => 10 - (intOf k).toNat)
    case atStart => exact ⟨0, 0, rfl, rfl, by omega, hle, by simp, by omega, HN.out, HR.out, Upd.refl _ _⟩
    case round =>
      obtain ⟨n, k, rfl, rfl, hk9, hpk, hn, hn64, hF, hr, hu⟩ := hrel
      have HRr := Lib.hid hr
      have HUr := Lib.hid hu
      have HF := Lib.hid hF
      have HNb := Lib.hid hn
      obtain ⟨yr, nr, _, _, _, d2, _⟩ := hr.facts rfl
      clear hr hu hF hn c0 c1 c2 f1
      by_cases hend : p + k = l.length
      · obtain ⟨ht1, ht2⟩ := take_none hend
        go_wp2_with fail
        refine (fraw_any a v _ 1 _ HRr.out (by omega) (by omega)).mono ?_
        intro e w3 hp
        unfold FRawP at hp
        rw [ht1, ht2] at hp
        obtain ⟨v3, rfl, ho3, hr3, hu3⟩ := hp
        obtain ⟨ao3, cap3, rfl⟩ := own_shape ho3
        obtain ⟨p3, _, _, _, e2, _, _⟩ := hr3.facts' (by simp)
        have HR3 := Lib.hid hr3
        have HU3 := Lib.hid hu3
        have hy10 : y = 10 ∧ N = 0 ∧ s = 0 := by
          have h := HF.out
          obtain ⟨k', hk'⟩ : ∃ k', 10 - k = k' + 1 := ⟨9 - k, by omega⟩
          rw [hk', numF, List.getElem?_eq_none (by simp; omega)] at h
          simp only [Prod.mk.injEq] at h
          omega
        have HY := Lib.hid hy10.1
        clear hr3 hu3 ho3 hy10 ht1 ht2 d2
        go_wp2
        go_ret
        unfold FNumP
        rw [HQ.out, if_pos HY.out]
        exact ⟨rfl, HR3.out.anywhere (by simp) hle, HUr.out.trans' HU3.out⟩
      · have hlt : p + k < l.length := by omega
        obtain ⟨ht1, ht2⟩ := take_one hlt
        have hstep := HF.out
        obtain ⟨k', hk'⟩ : ∃ k', 10 - k = k' + 1 := ⟨9 - k, by omega⟩
        have hget : (l.drop p)[k]? = some l[p + k] := by simp [List.getElem?_drop, List.getElem?_eq_getElem hlt]
        rw [hk', numF, hget] at hstep
        simp only at hstep
        have hb := UInt8.toNat_lt l[p + k]
        go_wp2_with fail
        refine (fraw_any a v _ 1 _ HRr.out (by omega) (by omega)).mono ?_
        intro e w3 hp
        unfold FRawP at hp
        rw [ht1, ht2] at hp
        obtain ⟨v3, rfl, ho3, hr3, hu3⟩ := hp
        obtain ⟨g3, cap3, rfl, _, hg3⟩ := ho3.form (by simp)
        have hcell : w3.cell? ⟨g3, 0, none⟩ = some (.int .u8 (l[p + k].toNat : Int)) := by
          have := ho3.cells (g := g3) rfl 0 (byteV l[p + k]) (by simp [bytesV])
          exact this
        obtain ⟨_, _, _, _, _, e2, _⟩ := hr3.facts rfl
        have HR3 := Lib.hid hr3
        have HU3 := Lib.hid hu3
        have HK := Lib.hid hk'
        generalize l[p + k] = c at *
        obtain ⟨m, hm⟩ : ∃ m : Nat, m = c.toNat := ⟨_, rfl⟩
        rw [← hm] at hcell hb hstep
        have HS := Lib.hid hstep
        clear hr3 hu3 ho3 ht1 ht2 d2 hg3 hget hm hk' hstep hend
        have hac := accum n k m (by omega) HNb.out (by omega)
        have HAL := Lib.hid (accum_lt n k m HNb.out)
        have HA64 := Lib.hid (acc_u64 n k m)
        have hok2 : p + k + 1 ≤ l.length := by omega
        by_cases h9 : k = 9
        · have k9 : ((k : Int) == 9) = true := by simp [h9]
          by_cases hm1 : 1 < m
          · have hy12 : y = 12 ∧ N = 0 ∧ s = 0 := by
              have h := HS.out
              by_cases hb128 : 128 ≤ m
              · rw [if_pos hb128, show k' = 0 by have := HK.out; omega, numF] at h
                simp only [Prod.mk.injEq] at h
                omega
              · rw [if_neg hb128, if_pos (by omega)] at h
                simp only [Prod.mk.injEq] at h
                omega
            have HY := Lib.hid hy12.1
            clear hy12
            clear h9
            go_wp2_with fail
            refine (frefuse_any a v ⟨l, p, 0, 0⟩ 12 p _ (by have := HR3.out.set1 p hle; exact this) (by omega)).mono ?_
            rintro e w4 ⟨rfl, hr4, hu4⟩
            have HR4 := Lib.hid hr4
            have HU4 := Lib.hid hu4
            clear hr4 hu4
            go_wp2
            go_ret
            unfold FNumP
            rw [HQ.out, HY.out, if_neg (by omega), if_pos (by omega)]
            refine ⟨rfl, HR4.out, (HUr.out.trans' HU3.out).trans' (Upd.trans' ?_ HU4.out)⟩
            exact (Upd.refl (fun k => k = a) w3).setCell (p := ⟨a, 1, none⟩) (fun _ => rfl) _
          · by_cases hm0 : m = 0
            · have m0 : ((m : Int) == 0) = true := by simp [hm0]
              have hk0 : 0 < k := by omega
              have hy12 : y = 12 ∧ N = 0 ∧ s = 0 := by
                have h := HS.out
                rw [if_neg (by omega), if_pos (by omega)] at h
                simp only [Prod.mk.injEq] at h
                omega
              have HY := Lib.hid hy12.1
              clear hy12
              clear h9 hm0
              go_wp2_with fail
              refine (frefuse_any a v ⟨l, p, 0, 0⟩ 12 p _ (by have := HR3.out.set1 p hle; exact this) (by omega)).mono ?_
              rintro e w4 ⟨rfl, hr4, hu4⟩
              have HR4 := Lib.hid hr4
              have HU4 := Lib.hid hu4
              clear hr4 hu4
              go_wp2
              go_ret
              unfold FNumP
              rw [HQ.out, HY.out, if_neg (by omega), if_pos (by omega)]
              refine ⟨rfl, HR4.out, (HUr.out.trans' HU3.out).trans' (Upd.trans' ?_ HU4.out)⟩
              exact (Upd.refl (fun k => k = a) w3).setCell (p := ⟨a, 1, none⟩) (fun _ => rfl) _
            · have m0 : ((m : Int) == 0) = false := by simp; omega
              have hk0 : 0 < k := by omega
              have hm2 : m < 128 := by omega
              have hyok : N = acc n k m ∧ s = k + 1 ∧ y = 0 := by
                have h := HS.out
                rw [if_neg (by omega), if_neg (by omega)] at h
                simp only [Prod.mk.injEq] at h
                omega
              have HY := Lib.hid hyok
              clear hyok
              clear h9 hm0
              by_cases hmo : most < (acc n k m : Int)
              · go_wp2_with fail
                refine (frefuse_any a v _ 3 p _ HR3.out (by omega)).mono ?_
                rintro e w4 ⟨rfl, hr4, hu4⟩
                have HR4 := Lib.hid hr4
                have HU4 := Lib.hid hu4
                clear hr4 hu4
                go_wp2
                go_ret
                unfold FNumP
                obtain ⟨e1, e2, e3⟩ := HY.out
                rw [HQ.out, e1, e3, if_neg (by omega), if_neg (by omega), if_pos hmo]
                refine ⟨rfl, ?_, (HUr.out.trans' HU3.out).trans' HU4.out⟩
                have h := HR4.out
                rw [show RS.refuse ⟨l, p + k + 1, 0, 0⟩ 3 p = ⟨l, p + k + 1, 3, p⟩ by simp [RS.refuse]] at h
                exact h.anywhere (by omega) hle
              · go_wp2
                go_ret
                unfold FNumP
                obtain ⟨e1, e2, e3⟩ := HY.out
                rw [HQ.out, e1, e3, if_neg (by omega), if_neg (by omega), if_neg (by omega)]
                refine ⟨by rfl, ?_, HUr.out.trans' HU3.out⟩
                rw [e2, ← Nat.add_assoc]
                exact HR3.out.unclean no
        · have k9 : ((k : Int) == 9) = false := by simp; omega
          have hk8 : k ≤ 8 := by omega
          by_cases hk0 : k = 0
          · have hk1 : k < 1 := by omega
            by_cases hb128 : 128 ≤ m
            · have h := HS.out
              rw [if_pos hb128] at h
              have HS2 := Lib.hid h
              clear h
              clear h9 hk0
              go_wp2
              go_roundw
              case rel =>
                refine ⟨acc n k m, k + 1, by rfl, by go_num, by omega, by omega, HAL.out, by have := HA64.out; omega, ?_, ?_, HUr.out.trans' HU3.out⟩
                · rw [← HS2.out, show 10 - (k + 1) = k' by have := HK.out; omega]
                · have := HR3.out; rwa [Nat.add_assoc] at this
              case measure => simp [intOf]; omega
            · have hm2 : m < 128 := by omega
              have hyok : N = acc n k m ∧ s = k + 1 ∧ y = 0 := by
                have h := HS.out
                rw [if_neg (by omega), if_neg (by omega)] at h
                simp only [Prod.mk.injEq] at h
                omega
              have HY := Lib.hid hyok
              clear hyok
              clear h9 hk0
              by_cases hmo : most < (acc n k m : Int)
              · go_wp2_with fail
                refine (frefuse_any a v _ 3 p _ HR3.out (by omega)).mono ?_
                rintro e w4 ⟨rfl, hr4, hu4⟩
                have HR4 := Lib.hid hr4
                have HU4 := Lib.hid hu4
                clear hr4 hu4
                go_wp2
                go_ret
                unfold FNumP
                obtain ⟨e1, e2, e3⟩ := HY.out
                rw [HQ.out, e1, e3, if_neg (by omega), if_neg (by omega), if_pos hmo]
                refine ⟨rfl, ?_, (HUr.out.trans' HU3.out).trans' HU4.out⟩
                have h := HR4.out
                rw [show RS.refuse ⟨l, p + k + 1, 0, 0⟩ 3 p = ⟨l, p + k + 1, 3, p⟩ by simp [RS.refuse]] at h
                exact h.anywhere (by omega) hle
              · go_wp2
                go_ret
                unfold FNumP
                obtain ⟨e1, e2, e3⟩ := HY.out
                rw [HQ.out, e1, e3, if_neg (by omega), if_neg (by omega), if_neg (by omega)]
                refine ⟨by rfl, ?_, HUr.out.trans' HU3.out⟩
                rw [e2, ← Nat.add_assoc]
                exact HR3.out.unclean no
          · have hk1 : 0 < k := by omega
            by_cases hm0 : m = 0
            · have m0 : ((m : Int) == 0) = true := by simp [hm0]
              have hy12 : y = 12 ∧ N = 0 ∧ s = 0 := by
                have h := HS.out
                rw [if_neg (by omega), if_pos (by omega)] at h
                simp only [Prod.mk.injEq] at h
                omega
              have HY := Lib.hid hy12.1
              clear hy12
              clear h9 hm0 hk0
              go_wp2_with fail
              refine (frefuse_any a v ⟨l, p, 0, 0⟩ 12 p _ (by have := HR3.out.set1 p hle; exact this) (by omega)).mono ?_
              rintro e w4 ⟨rfl, hr4, hu4⟩
              have HR4 := Lib.hid hr4
              have HU4 := Lib.hid hu4
              clear hr4 hu4
              go_wp2
              go_ret
              unfold FNumP
              rw [HQ.out, HY.out, if_neg (by omega), if_pos (by omega)]
              refine ⟨rfl, HR4.out, (HUr.out.trans' HU3.out).trans' (Upd.trans' ?_ HU4.out)⟩
              exact (Upd.refl (fun k => k = a) w3).setCell (p := ⟨a, 1, none⟩) (fun _ => rfl) _
            · have m0 : ((m : Int) == 0) = false := by simp; omega
              have hmp : 0 < m := by omega
              by_cases hb128 : 128 ≤ m
              · have h := HS.out
                rw [if_pos hb128] at h
                have HS2 := Lib.hid h
                clear h
                clear h9 hk0 hm0
                go_wp2
                go_roundw
                case rel =>
                  refine ⟨acc n k m, k + 1, by rfl, by go_num, by omega, by omega, HAL.out, by have := HA64.out; omega, ?_, ?_, HUr.out.trans' HU3.out⟩
                  · rw [← HS2.out, show 10 - (k + 1) = k' by have := HK.out; omega]
                  · have := HR3.out; rwa [Nat.add_assoc] at this
                case measure => simp [intOf]; omega
              · have hm2 : m < 128 := by omega
                have hyok : N = acc n k m ∧ s = k + 1 ∧ y = 0 := by
                  have h := HS.out
                  rw [if_neg (by omega), if_neg (by omega)] at h
                  simp only [Prod.mk.injEq] at h
                  omega
                have HY := Lib.hid hyok
                clear hyok
                clear h9 hk0 hm0
                by_cases hmo : most < (acc n k m : Int)
                · go_wp2_with fail
                  refine (frefuse_any a v _ 3 p _ HR3.out (by omega)).mono ?_
                  rintro e w4 ⟨rfl, hr4, hu4⟩
                  have HR4 := Lib.hid hr4
                  have HU4 := Lib.hid hu4
                  clear hr4 hu4
                  go_wp2
                  go_ret
                  unfold FNumP
                  obtain ⟨e1, e2, e3⟩ := HY.out
                  rw [HQ.out, e1, e3, if_neg (by omega), if_neg (by omega), if_pos hmo]
                  refine ⟨rfl, ?_, (HUr.out.trans' HU3.out).trans' HU4.out⟩
                  have h := HR4.out
                  rw [show RS.refuse ⟨l, p + k + 1, 0, 0⟩ 3 p = ⟨l, p + k + 1, 3, p⟩ by simp [RS.refuse]] at h
                  exact h.anywhere (by omega) hle
                · go_wp2
                  go_ret
                  unfold FNumP
                  obtain ⟨e1, e2, e3⟩ := HY.out
                  rw [HQ.out, e1, e3, if_neg (by omega), if_neg (by omega), if_neg (by omega)]
                  refine ⟨by rfl, ?_, HUr.out.trans' HU3.out⟩
                  rw [e2, ← Nat.add_assoc]
                  exact HR3.out.unclean no
  · obtain ⟨p0, hc, c0, c1, c2, c3, c4⟩ := hr.facts' hw
    have HQ : Hid (r.number most = (r, 0)) := by show _ = _; simp [RS.number, hw]
    clear hc hw
    go_enter Try.func35, Try.ntmps35
    go_wp2
    go_loopw [6, 7] (fun n k wr => n = .int .u64 0 ∧ k = .int .i64 0 ∧ w = wr) (fun _ _ _ => 0)
    case atStart => exact ⟨rfl, rfl, rfl⟩
    case round =>
      obtain ⟨rfl, rfl, rfl⟩ := hrel
      go_wp2
      go_ret
      unfold FNumP
      rw [HQ.out]
      exact ⟨rfl, hr, Upd.refl _ _⟩

end Go.Proofs.Ytbpeoclhabgcgaa
