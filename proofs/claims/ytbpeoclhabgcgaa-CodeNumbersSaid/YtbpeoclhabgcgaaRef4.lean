import Derived.Test.YtbpeoclhabgcgaaRef3
namespace Go.Proofs.Ytbpeoclhabgcgaa
open Go.RowKit
set_option linter.unusedVariables false
set_option linter.unusedSimpArgs false

set_option maxHeartbeats 1000000 in
set_option maxRecDepth 100000 in
theorem fsigned_any (a : Nat) (v : Value) (r : RS) (w : World) (hr : Rf w a v r) :
    Calls Try.prog 36 #[.pointer (some ⟨a, 0, none⟩)] w fun e w' => e = .returned (.int .i64 r.signed.2) ∧ RfPost a v r.signed.1 w w' := by
  unfold RS.signed
  have hlt := r.number_lt maxU
  go_enter Try.func36, Try.ntmps36
  go_wp2_with fail
  refine (fnum_any a v r _ _ hr).mono ?_
  unfold FNumP
  rw [show (18446744073709551615 : Int) = maxU from rfl]
  rintro e w1 ⟨rfl, hp⟩
  have HP := Lib.hid hp
  clear hp
  obtain ⟨N, hNN⟩ : ∃ N, (r.number maxU).2 = N := ⟨_, rfl⟩
  rw [hNN] at hlt ⊢
  have HN := Lib.hid hNN
  have hN : (N : Int) ≤ 18446744073709551615 := by omega
  clear hNN
  by_cases hodd : N % 2 = 1
  · have g : ((N : Int) % 2 == 1) = true := by simp; omega
    have H1 : Hid (unzig N = -((N : Int) / 2) - 1) := by show _ = _; unfold unzig; rw [if_pos hodd]; omega
    clear hodd
    go_wp2
    go_ret
    refine ⟨?_, HP.out⟩
    rw [HN.out, H1.out]; rfl
  · have g : ((N : Int) % 2 == 1) = false := by simp; omega
    have H1 : Hid (unzig N = (N : Int) / 2) := by show _ = _; unfold unzig; rw [if_neg hodd]; omega
    clear hodd
    go_wp2
    go_ret
    refine ⟨?_, HP.out⟩
    rw [HN.out, H1.out]; rfl

set_option maxHeartbeats 1000000 in
set_option maxRecDepth 100000 in
/-- Fewer than no bytes: nothing turns. -/
theorem frawneg_any (a : Nat) (v : Value) (r : RS) (n : Int) (w : World) (hr : Rf w a v r) (h0 : n < 0) :
    Calls Try.prog 38 #[.pointer (some ⟨a, 0, none⟩), .int .i64 n] w fun e w' => e = .returned (.slice none 0 0) ∧ w = w' := by
  by_cases hw : r.why = 0
  · obtain ⟨y0, n0, hc, c0, c1, c2, f1⟩ := hr.facts hw
    clear hc hw
    go_enter Try.func38, Try.ntmps38
    go_wp2
    go_ret
    exact ⟨rfl, rfl⟩
  · obtain ⟨p0, hc, c0, c1, c2, c3, c4⟩ := hr.facts' hw
    clear hc hw
    go_enter Try.func38, Try.ntmps38
    go_wp2
    go_ret
    exact ⟨rfl, rfl⟩
theorem take_zero (r : RS) (h : r.p ≤ r.l.length) : r.take 0 = r := by
  unfold RS.take
  split
  · rw [if_neg (by omega)]; simp
  · rfl
theorem took_zero (r : RS) : r.took 0 = [] := by unfold RS.took; split <;> simp
/-- Raw, of however many. -/
theorem frawmax_any (a : Nat) (v : Value) (r : RS) (n : Int) (w : World) (hr : Rf w a v r) (hn : n ≤ 9223372036854775807) :
    Calls Try.prog 38 #[.pointer (some ⟨a, 0, none⟩), .int .i64 n] w (FRawP a v r (max n 0) w) := by
  by_cases h : 0 ≤ n
  · rw [show max n 0 = n by omega]
    exact fraw_any a v r n w hr h hn
  · rw [show max n 0 = 0 by omega]
    refine (frawneg_any a v r n w hr (by omega)).mono ?_
    rintro e w' ⟨rfl, rfl⟩
    refine ⟨_, rfl, ?_, ?_⟩
    · rw [took_zero]; exact World.ownsRow_nil _ _ _ _
    · rw [take_zero r hr.le]; exact ⟨hr, Upd.refl _ _⟩

def FTextP (a : Nat) (v : Value) (r : RS) (n : Int) (w : World) (e : Ending) (w' : World) : Prop :=
  e = .returned (.string (strOf (r.text n).2)) ∧ RfPost a v (r.text n).1 w w'

set_option maxHeartbeats 1000000 in
set_option maxRecDepth 100000 in
theorem ftext_any (a : Nat) (v : Value) (r : RS) (n : Int) (w : World) (hr : Rf w a v r) (hn : n ≤ 9223372036854775807) :
    Calls Try.prog 37 #[.pointer (some ⟨a, 0, none⟩), .int .i64 n] w (FTextP a v r n w) := by
  by_cases h : 0 ≤ n
  · have HT : Hid (r.text n = (((r.number n).1.take (r.number n).2), ((r.number n).1.took (r.number n).2))) := by
      show _ = _
      unfold RS.text; rw [show max n 0 = n by omega]
    have hmo := r.number_most n h
    go_enter Try.func37, Try.ntmps37
    go_wp2_with fail
    refine (fnum_any a v r n _ hr).mono ?_
    rintro e w1 ⟨rfl, hp⟩
    have HP := Lib.hid hp
    clear hp
    generalize (r.number n).1 = r1 at *
    generalize (r.number n).2 = m at *
    go_wp2_with fail
    refine (fraw_any a v r1 m _ HP.out.1 (by omega) (by omega)).mono ?_
    rintro e w2 ⟨vs, rfl, ho, hp⟩
    have hs := str_of (Bytes_own ho)
    have HQ := Lib.hid hp
    clear ho hp
    go_wp2
    go_ret
    refine ⟨by rw [HT.out]; rfl, ?_⟩
    rw [HT.out]
    exact RfPost.trans HP.out.2 HQ.out
  · have HT : Hid (r.text n = (((r.number 0).1.take (r.number 0).2), ((r.number 0).1.took (r.number 0).2))) := by
      show _ = _
      unfold RS.text; rw [show max n 0 = 0 by omega]
    have hmo := r.number_most 0 (by omega)
    have hlt : n < 0 := by omega
    clear h
    go_enter Try.func37, Try.ntmps37
    go_wp2_with fail
    refine (fnum_any a v r 0 _ hr).mono ?_
    rintro e w1 ⟨rfl, hp⟩
    have HP := Lib.hid hp
    clear hp
    generalize (r.number 0).1 = r1 at *
    generalize (r.number 0).2 = m at *
    go_wp2_with fail
    refine (fraw_any a v r1 m _ HP.out.1 (by omega) (by omega)).mono ?_
    rintro e w2 ⟨vs, rfl, ho, hp⟩
    have hs := str_of (Bytes_own ho)
    have HQ := Lib.hid hp
    clear ho hp
    go_wp2
    go_ret
    refine ⟨by rw [HT.out]; rfl, ?_⟩
    rw [HT.out]
    exact RfPost.trans HP.out.2 HQ.out
end Go.Proofs.Ytbpeoclhabgcgaa
