import Derived.Test.YtbpeoclhabgcgaaRdr
namespace Go.Proofs.Ytbpeoclhabgcgaa
open Go.RowKit
set_option linter.unusedVariables false
set_option linter.unusedSimpArgs false
theorem took_why (r : RS) (n : Nat) (hn : 0 < n) (h : r.took n = []) : (r.take n).why ≠ 0 := by
  unfold RS.took at h
  unfold RS.take
  by_cases h0 : r.why = 0
  · by_cases h1 : (r.l.length : Int) - r.p < (n : Int)
    · rw [if_pos h0, if_pos h1]; simp
    · rw [if_pos ⟨h0, h1⟩] at h
      have := congrArg List.length h
      simp at this
      omega
  · rw [if_neg h0]; exact h0
theorem took_ok (r : RS) (n : Int) (h : r.took n ≠ []) : (r.take n).why = 0 := by
  unfold RS.took at h
  unfold RS.take
  by_cases h0 : r.why = 0
  · by_cases h1 : (r.l.length : Int) - r.p < n
    · rw [if_neg (by rintro ⟨_, h2⟩; exact h2 h1)] at h; exact absurd rfl h
    · rw [if_pos h0, if_neg h1]; exact h0
  · rw [if_neg (by rintro ⟨h1, _⟩; exact h0 h1)] at h; exact absurd rfl h
theorem Rf.get2 {w : World} {a : Nat} {v : Value} {r : RS} (h : Rf w a v r) : w.cell? ⟨a, 2, none⟩ = some (.bool (r.why != 0)) := by
  obtain ⟨p, y, n, hc, _, _⟩ := h.cell
  rw [cell_of_row w a 2 _ 62 (0, 0) hc]; rfl
theorem Rf.get1 {w : World} {a : Nat} {v : Value} {r : RS} (h : Rf w a v r) (h0 : r.why = 0) : w.cell? ⟨a, 1, none⟩ = some (.int .i64 (r.p : Int)) := by
  obtain ⟨p, y, n, hc, h1, _⟩ := h.cell
  rw [cell_of_row w a 1 _ 62 (0, 0) hc, ← h1 h0]; rfl
set_option maxHeartbeats 1000000 in
set_option maxRecDepth 100000 in
theorem one_any (a : Nat) (v : Value) (r : RS) (w : World) (hr : Rf w a v r) :
    Calls Try.prog 72 #[.pointer (some ⟨a, 0, none⟩)] w fun e w' => e = .returned (.int .i64 r.byte.2) ∧ RfPost a v r.byte.1 w w' := by
  unfold RS.byte
  rcases took1 r with h | ⟨b, h⟩
  · have hw := took_why r 1 (by omega) h
    go_enter Try.func72, Try.ntmps72
    go_wp2_with fail
    refine (fraw_any a v r 1 w hr (by omega) (by omega)).mono ?_
    rintro e w1 ⟨vs, rfl, ho, hp⟩
    rw [h] at ho
    have HP := Lib.hid hp
    have c2 := hp.1.get2
    rw [show ((r.take 1).why != 0) = true by simpa using hw] at c2
    obtain ⟨ao, cap, rfl⟩ := own_shape ho
    clear hp ho hw
    go_wp2_with fail
    go_ret
    exact ⟨by rw [h]; rfl, HP.out⟩
  · have hw := took_ok r 1 (by rw [h]; simp)
    go_enter Try.func72, Try.ntmps72
    go_wp2_with fail
    refine (fraw_any a v r 1 w hr (by omega) (by omega)).mono ?_
    rintro e w1 ⟨vs, rfl, ho, hp⟩
    rw [h] at ho
    have HP := Lib.hid hp
    have c2 := hp.1.get2
    rw [show ((r.take 1).why != 0) = false by simpa using hw] at c2
    obtain ⟨ao, cap, hv, _, _, hdj⟩ := Bytes_own ho
    obtain ⟨g, off, rfl, hcl⟩ := hdj.resolve_left (by simp)
    subst hv
    have c1 := hcl 0 (by simp)
    simp only [List.length_singleton, Nat.add_zero, List.getElem_cons_zero, byteV] at c1
    have hbl := b.toNat_lt
    have HW := Lib.hid (show wrap64 (b.toNat : Int) = b.toNat by unfold wrap64; omega)
    clear hp ho hcl hdj hw
    go_wp2_with fail
    go_ret
    refine ⟨?_, HP.out⟩
    rw [h]
    show _ = Ending.returned (.int .i64 (b.toNat : Int))
    rw [← HW.out]
    rfl
set_option maxHeartbeats 1000000 in
set_option maxRecDepth 100000 in
theorem two_any (a : Nat) (v : Value) (r : RS) (w : World) (hr : Rf w a v r) :
    Calls Try.prog 73 #[.pointer (some ⟨a, 0, none⟩)] w fun e w' => e = .returned (.int .i64 r.word.2) ∧ RfPost a v r.word.1 w w' := by
  unfold RS.word
  rcases took2 r with h | ⟨x, y, h⟩
  · have hw := took_why r 2 (by omega) h
    go_enter Try.func73, Try.ntmps73
    go_wp2_with fail
    refine (fraw_any a v r 2 w hr (by omega) (by omega)).mono ?_
    rintro e w1 ⟨vs, rfl, ho, hp⟩
    rw [h] at ho
    have HP := Lib.hid hp
    have c2 := hp.1.get2
    rw [show ((r.take 2).why != 0) = true by simpa using hw] at c2
    obtain ⟨ao, cap, rfl⟩ := own_shape ho
    clear hp ho hw
    go_wp2_with fail
    go_ret
    exact ⟨by rw [h]; rfl, HP.out⟩
  · have hw := took_ok r 2 (by rw [h]; simp)
    go_enter Try.func73, Try.ntmps73
    go_wp2_with fail
    refine (fraw_any a v r 2 w hr (by omega) (by omega)).mono ?_
    rintro e w1 ⟨vs, rfl, ho, hp⟩
    rw [h] at ho
    have HP := Lib.hid hp
    have c3 := hp.1.get2
    rw [show ((r.take 2).why != 0) = false by simpa using hw] at c3
    obtain ⟨ao, cap, hv, _, _, hdj⟩ := Bytes_own ho
    obtain ⟨g, off, rfl, hcl⟩ := hdj.resolve_left (by simp)
    subst hv
    have c1 := hcl 0 (by simp)
    have c2 := hcl 1 (by simp)
    simp only [Nat.add_zero, List.getElem_cons_zero, List.getElem_cons_succ, byteV] at c1 c2
    have hx : x.toNat < 256 := x.toNat_lt
    have hy : y.toNat < 256 := y.toNat_lt
    have HJ := Lib.hid (join_i64 x.toNat y.toNat hx hy)
    clear hp ho hcl hdj hw
    go_wp2_with fail
    go_quiet (fail)
    go_wp2_with fail
    go_ret
    refine ⟨?_, ?_⟩
    · rw [h]
      show _ = Ending.returned (.int .i64 (((x.toNat * 256 + y.toNat : Nat)) : Int))
      rw [← HJ.out]
      rfl
    · exact ⟨HP.out.1.drewN _, HP.out.2.drewN _⟩
set_option maxHeartbeats 1000000 in
set_option maxRecDepth 100000 in
theorem of_any (x y : Int) (w : World) : Calls Try.prog 71 #[.int .i64 x, .int .i64 y] w fun e w' => e = .returned (.complex .f64 (fl x) (fl y)) ∧ w' = w := by
  go_enter Try.func71, Try.ntmps71
  go_wp2_with fail
  go_ret
  exact ⟨rfl, rfl⟩
end Go.Proofs.Ytbpeoclhabgcgaa
