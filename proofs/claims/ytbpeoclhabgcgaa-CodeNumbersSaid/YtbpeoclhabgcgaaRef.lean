import Derived.Test.YtbpeoclhabgcgaaWire8
import Derived.Deep.RegionHeld3
namespace Go.Proofs.Ytbpeoclhabgcgaa
open Go.RowKit
set_option linter.unusedVariables false
set_option linter.unusedSimpArgs false

/-- The reference's reader at block a, whose slice is v, is in state r. (Where it has refused, its place says nothing more.) -/
structure Rf (w : World) (a : Nat) (v : Value) (r : RS) : Prop where
  cell : ∃ p y n : Int, w.heap[a]? = some (.cells #[v, .int .i64 p, .bool (r.why != 0), .int .i64 y, .int .i64 n] 62 (0, 0)) ∧ (r.why = 0 → p = r.p) ∧ (r.why ≠ 0 → y = r.why ∧ n = r.no)
  bytes : Bytes w v r.l
  apart : r.l = [] ∨ v.ownBlock ≠ some a
  le : r.p ≤ r.l.length
  small : r.l.length ≤ 140737488355328
def RfPost (a : Nat) (v : Value) (r : RS) (w w' : World) : Prop := Rf w' a v r ∧ Upd (fun k => k = a) w w'

section
variable {w w' : World} {a : Nat} {v : Value} {r : RS} {S : Nat → Prop}
theorem Rf.lt (h : Rf w a v r) : a < w.heap.size := by obtain ⟨_, _, _, h, _⟩ := h.cell; exact (Array.getElem?_eq_some_iff.1 h).1
theorem Rf.upd (h : Rf w a v r) (hu : Upd S w w') (hs : ∀ k, (k = a ∨ v.ownBlock = some k) → ¬ S k) : Rf w' a v r := by
  obtain ⟨p, y, n, hc, h1, h2⟩ := h.cell
  exact ⟨⟨p, y, n, hu.heap_some hc (hs a (.inl rfl)), h1, h2⟩, Bytes_upd h.bytes hu (fun k hk => hs k (.inr hk)), h.apart, h.le, h.small⟩
theorem Rf.drewN (h : Rf w a v r) (n : Nat) : Rf (w.drewN n) a v r := h.upd ((Upd.refl (fun _ => False) w).drewN n) (fun _ _ h => h)
theorem Bytes_nil (h : Bytes w v []) : Bytes w' v [] := by
  obtain ⟨ao, cap, hv, h1, h2, _⟩ := h
  exact ⟨ao, cap, hv, h1, h2, .inl rfl⟩
theorem Bytes_keep {l : List UInt8} {c : Nat} (h : Bytes w v l) (ha : l = [] ∨ v.ownBlock ≠ some c) (hu : Upd (fun k => k = c) w w') : Bytes w' v l := by
  rcases ha with rfl | ha
  · exact Bytes_nil h
  · exact Bytes_upd h hu (fun k hk e => ha (by rw [hk, e]))
theorem Rf.keeps (h : Rf w a v r) (hu : Upd (fun k => k = a) w w') : Bytes w' v r.l := Bytes_keep h.bytes h.apart hu
/-- A reference's reader while another block is written. -/
theorem Rf.beside {c : Nat} (h : Rf w a v r) (hu : Upd (fun k => k = c) w w') (hc : a ≠ c) (hv : r.l = [] ∨ v.ownBlock ≠ some c) : Rf w' a v r := by
  obtain ⟨p, y, n, h0, h1, h2⟩ := h.cell
  exact ⟨⟨p, y, n, hu.heap_some h0 hc, h1, h2⟩, Bytes_keep h.bytes hv hu, h.apart, h.le, h.small⟩
end

set_option maxHeartbeats 400000 in
set_option maxRecDepth 100000 in
theorem frefuse_any (a : Nat) (v : Value) (r : RS) (y n : Int) (w : World) (hr : Rf w a v r) (hy : y ≠ 0) :
    Calls Try.prog 58 #[.pointer (some ⟨a, 0, none⟩), .int .i64 y, .int .i64 n] w fun e w' => e = .returned (.tuple #[]) ∧ RfPost a v (r.refuse y n) w w' := by
  obtain ⟨p, y0, n0, hc, h1, h2⟩ := hr.cell
  have c2 : w.cell? ⟨a, 2, none⟩ = some (.bool (r.why != 0)) := by rw [cell_of_row w a 2 _ 62 (0, 0) hc]; rfl
  have c3 : w.cell? ⟨a, 3, none⟩ = some (.int .i64 y0) := by rw [cell_of_row w a 3 _ 62 (0, 0) hc]; rfl
  have c4 : w.cell? ⟨a, 4, none⟩ = some (.int .i64 n0) := by rw [cell_of_row w a 4 _ 62 (0, 0) hc]; rfl
  have f2 := frozen_of_row w a 2 _ 62 hc
  have f3 := frozen_of_row w a 3 _ 62 hc
  have f4 := frozen_of_row w a 4 _ 62 hc
  have HC := Lib.hid hc
  by_cases hw : r.why = 0
  · have g : (r.why != 0) = false := by simp [hw]
    rw [g] at c2
    have HR : Hid (r.refuse y n = { r with why := y, no := n }) := by show _ = _; simp [RS.refuse, hw, hy]
    have HY := Lib.hid hy
    have HW := Lib.hid hw
    clear hc hw h1 h2 hy g
    go_enter Try.func58, Try.ntmps58
    go_wp2
    go_end0
    refine ⟨rfl, ?_⟩
    rw [HR.out]
    have hU : Upd (fun k => k = a) w (((w.setCell ⟨a, 2, none⟩ (.bool true)).setCell ⟨a, 3, none⟩ (.int .i64 y)).setCell ⟨a, 4, none⟩ (.int .i64 n)) :=
      (((Upd.refl (fun k => k = a) w).setCell (p := ⟨a, 2, none⟩) (fun _ => rfl) _).setCell (p := ⟨a, 3, none⟩) (fun _ => rfl) _).setCell (p := ⟨a, 4, none⟩) (fun _ => rfl) _
    refine ⟨⟨⟨p, y, n, ?_, fun h => absurd h HY.out, fun _ => ⟨rfl, rfl⟩⟩, hr.keeps hU, hr.apart, hr.le, hr.small⟩, hU⟩
    have k1 := heap_setCell_same w a 2 _ 62 (.bool true) HC.out
    have k2 := heap_setCell_same _ a 3 _ 62 (.int .i64 y) k1
    rw [heap_setCell_same _ a 4 _ 62 (.int .i64 n) k2]
    have : (y != 0) = true := by simp [HY.out]
    simp [this]
  · have g : (r.why != 0) = true := by simp [hw]
    rw [g] at c2
    have HR : Hid (r.refuse y n = r) := by show _ = _; simp [RS.refuse, hw]
    clear hc hw h1 h2 hy g
    go_enter Try.func58, Try.ntmps58
    go_wp2
    go_end0
    refine ⟨rfl, ?_⟩
    rw [HR.out]
    exact ⟨hr, Upd.refl _ _⟩

/-- Raw: what is taken, in new memory. -/
def FRawP (a : Nat) (v : Value) (r : RS) (n : Int) (w : World) (e : Ending) (w' : World) : Prop :=
  ∃ v', e = .returned v' ∧ w'.ownsRow w.heap.size 5 1 v' (r.took n).length (bytesV (r.took n)) ∧ RfPost a v (r.take n) w w'

set_option maxHeartbeats 1000000 in
set_option maxRecDepth 100000 in
theorem fraw_any (a : Nat) (v : Value) (r : RS) (n : Int) (w : World) (hr : Rf w a v r) (h0 : 0 ≤ n) (hn : n ≤ 9223372036854775807) :
    Calls Try.prog 38 #[.pointer (some ⟨a, 0, none⟩), .int .i64 n] w (FRawP a v r n w) := by
  obtain ⟨i0, hi, hz0, hz1, hz2⟩ := info_parts Try.info5
  obtain ⟨p, y0, n0, hc, h1, h2⟩ := hr.cell
  have c0 : w.cell? ⟨a, 0, none⟩ = some v := by rw [cell_of_row w a 0 _ 62 (0, 0) hc]; rfl
  have c1 : w.cell? ⟨a, 1, none⟩ = some (.int .i64 p) := by rw [cell_of_row w a 1 _ 62 (0, 0) hc]; rfl
  have c2 : w.cell? ⟨a, 2, none⟩ = some (.bool (r.why != 0)) := by rw [cell_of_row w a 2 _ 62 (0, 0) hc]; rfl
  have f1 := frozen_of_row w a 1 _ 62 hc
  have hlt := hr.lt
  have hle := hr.le
  have hsm := hr.small
  have hb := hr.bytes
  have HC := Lib.hid hc
  obtain ⟨m, rfl⟩ := Int.eq_ofNat_of_zero_le h0
  by_cases hw : r.why = 0
  · have g : (r.why != 0) = false := by simp [hw]
    rw [g] at c2
    have hp := h1 hw
    subst hp
    have hsh : ∃ ao cap, v = .slice ao r.l.length cap := by
      obtain ⟨ao, cap, rfl, _⟩ := hb
      exact ⟨ao, cap, rfl⟩
    by_cases hsx : (r.l.length : Int) - r.p < m
    · have HT : Hid (r.take m = r.refuse 10 r.l.length) := by show _ = _; simp [RS.take, RS.refuse, hw, hsx]
      have HK : Hid (r.took m = []) := by show _ = _; simp [RS.took, hsx]
      obtain ⟨ao, cap, rfl⟩ := hsh
      clear hc h1 h2 hb hw g
      go_enter Try.func38, Try.ntmps38
      go_wp2
      go_quiet (fail)
      go_wp2_with fail
      refine (frefuse_any a _ r 10 _ _ (hr.drewN _) (by omega)).mono ?_
      rintro e w1 ⟨rfl, hp1, hu1⟩
      have HP := Lib.hid hp1
      have HU := Lib.hid hu1
      clear hp1 hu1
      go_wp2
      go_ret
      refine ⟨_, rfl, ?_, ?_⟩
      · rw [HK.out]; exact World.ownsRow_nil _ _ _ _
      · rw [HT.out]; exact ⟨HP.out, ((Upd.refl (fun k => k = a) w).drewN _).trans' HU.out⟩
    · obtain ⟨vs, s1, s2, s3⟩ := slice_of hb r.p (r.p + m) (by omega) (by omega)
      have e1 : ((r.p + m : Nat) : Int) = (r.p : Int) + m := by omega
      rw [e1] at s1
      have HT : Hid (r.take m = { r with p := r.p + m }) := by show _ = _; simp [RS.take, hw, hsx]
      have HK : Hid (r.took m = (r.l.drop r.p).take (r.p + m - r.p)) := by show _ = _; simp [RS.took, hw, hsx]
      have E1 := Lib.hid e1
      have HW := Lib.hid hw
      have hlm : (m : Int) ≤ (r.l.length : Int) - r.p := by omega
      have hvs : ∃ ao' n' c', vs = .slice ao' n' c' := by
        obtain ⟨ao', c', h, _⟩ := s2 w hb
        exact ⟨_, _, _, h⟩
      obtain ⟨ao, cap, rfl⟩ := hsh
      obtain ⟨ao', n', c', rfl⟩ := hvs
      have HS2 := Lib.hid s2
      have HL : Hid (((r.l.drop r.p).take (r.p + m - r.p)).length ≤ 140737488355328) := by show _ ≤ _; simp; omega
      clear hc h1 h2 hb hw g s2 s3 e1 hsx
      go_enter Try.func38, Try.ntmps38
      go_wp2
      go_quiet (fail)
      go_wp2_with fail
      have HU1 : Hid (Upd (fun _ => False) w (w.drewN nq)) := (Upd.refl (fun _ => False) w).drewN nq
      generalize w.drewN nq = wq at *
      have d0 := HU1.out.cell_some c0 (fun h => h)
      have d1 := HU1.out.cell_some c1 (fun h => h)
      have hltq : a < wq.heap.size := Nat.lt_of_lt_of_le hlt HU1.out.size
      have HBq : Hid (Bytes wq (.slice ao' n' c') ((r.l.drop r.p).take (r.p + m - r.p))) := HS2.out _ (Bytes_upd hr.bytes HU1.out (fun _ _ h => h))
      have HO : Hid ((wq.alloc (.cells #[] 5)).ownsRow wq.heap.size 5 1 (.slice (some ⟨wq.heap.size, 0, none⟩) 0 0) 0 []) := World.ownsRow_lit wq #[] 0 (Nat.le_refl _) (by simp [maxLen]) rfl
      clear c0 c1 c2
      have hwr : IntKind.i64.wrap ((r.p : Int) + m) = (r.p : Int) + m := IntWalk.i64_in _ (by omega)
      go_region_held3 (fun w' => w'.cell? ⟨a, 0, none⟩ = some (.slice ao r.l.length cap) ∧ w'.cell? ⟨a, 1, none⟩ = some (.int .i64 (r.p : Int)))
        (first
          | go_keep
          | (go_split_ands
             refine ⟨?_, ?_⟩
             · (rw [hgrow.cell_far _ (by simp; omega) (by simp [Value.ownBlock]; omega)]; assumption)
             · (rw [hgrow.cell_far _ (by simp; omega) (by simp [Value.ownBlock]; omega)]; assumption)))
        ((refine step_append_src_own _ (by rfl) _ _ 27 27 (by rfl) wq.heap.size 5 i0 _ 1 1 Try.underlying27 hi hz0 hz1 hz2 rfl _ 0 [] (by rfl) (HO.out.drew) _ _ (bytesV ((r.l.drop r.p).take (r.p + m - r.p))) (by rfl)
            (Src.ofBytes Try.underlying27 (Bytes_upd HBq.out (((Upd.refl (fun _ => False) wq).alloc (.cells #[] 5)).drew) (fun _ _ h => h))) (by have := HL.out; unfold maxLen; omega) (by have := HL.out; omega) (by simp) ?_; intro v' w1 hown1 hgrow hnew hshape))
      have hu1 : Upd (fun _ => False) wq w1 := (((Upd.refl (fun _ => False) wq).alloc _).drew).grown hgrow (fun k hk hlt => by simp [Value.ownBlock] at hk; omega)
      have hR1 := hr.upd (HU1.out.trans' hu1) (fun _ _ h => h)
      obtain ⟨p1, y1, n1, hc1, g1, g2⟩ := hR1.cell
      have hp1 := g1 HW.out
      subst hp1
      have k1 : w1.cell? ⟨a, 1, none⟩ = some (.int .i64 (r.p : Int)) := by rw [cell_of_row w1 a 1 _ 62 (0, 0) hc1]; rfl
      have k2 := frozen_of_row w1 a 1 _ 62 hc1
      have HC1 := Lib.hid hc1
      have HR1 := Lib.hid hR1
      have HU2 := Lib.hid (HU1.out.trans' hu1)
      have HN := Lib.hid hown1
      have HL1 := Lib.hid hnew
      have hsz := HU1.out.size
      clear hc1 hR1 hu1 hown1 hgrow hnew hwr g1 g2 d0 d1
      rcases hshape with rfl | ⟨g3, cap3, rfl⟩
      all_goals
        go_wp2
        go_ret
        have hU : Upd (fun k => k = a) w (w1.setCell ⟨a, 1, none⟩ (.int .i64 ((r.p : Int) + m))) := Upd.setCell (S := fun k => k = a) (HU2.out.mono (fun _ _ h => h.elim)) (p := ⟨a, 1, none⟩) (fun _ => rfl) _
        refine ⟨_, rfl, ?_, ?_⟩
        · rw [HK.out]
          refine ownsRow_base (ownsRow_upd (base := wq.heap.size) (by simpa using HN.out) ((Upd.refl (fun k => k = a) w1).setCell (p := ⟨a, 1, none⟩) (fun _ => rfl) _) ?_) ?_
          · intro k hk e
            rcases HL1.out k hk with h | h
            · simp [Value.ownBlock] at h; omega
            · simp at h; omega
          · intro k hk
            rcases HL1.out k hk with h | h
            · simp [Value.ownBlock] at h; omega
            · simp at h; omega
        · rw [HT.out]
          refine ⟨⟨⟨(r.p : Int) + m, y1, n1, ?_, fun _ => (E1.out).symm, fun h => absurd HW.out h⟩, hr.keeps hU, hr.apart, by show r.p + m ≤ r.l.length; omega, hr.small⟩, hU⟩
          rw [heap_setCell_same w1 a 1 _ 62 _ HC1.out]; rfl
  · have g : (r.why != 0) = true := by simp [hw]
    rw [g] at c2
    have HT : Hid (r.take m = r) := by show _ = _; simp [RS.take, hw]
    have HK : Hid (r.took m = []) := by show _ = _; simp [RS.took, hw]
    clear hc h1 h2 hb hw g
    go_enter Try.func38, Try.ntmps38
    go_wp2
    go_ret
    refine ⟨_, rfl, ?_, ?_⟩
    · rw [HK.out]; exact World.ownsRow_nil _ _ _ _
    · rw [HT.out]; exact ⟨hr, Upd.refl _ _⟩
end Go.Proofs.Ytbpeoclhabgcgaa
