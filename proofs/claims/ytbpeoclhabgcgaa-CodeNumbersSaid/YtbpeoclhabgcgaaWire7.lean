import Derived.Test.YtbpeoclhabgcgaaWire6
namespace Go.Proofs.Ytbpeoclhabgcgaa
open Go.RowKit
set_option linter.unusedVariables false
set_option linter.unusedSimpArgs false

theorem Bytes_sliced {w : World} {ao : Option Addr} {cap : Nat} {l : List UInt8} (hb : Bytes w (.slice ao l.length cap) l) (p q : Nat) (hpq : p ≤ q) (hq : q ≤ l.length) :
    Bytes w (sliced ao p q cap 1) ((l.drop p).take (q - p)) := by
  obtain ⟨ao', cap', hv, g1, g2, g3⟩ := hb
  simp only [Value.slice.injEq] at hv
  obtain ⟨rfl, _, rfl⟩ := hv
  have hlen : ((l.drop p).take (q - p)).length = q - p := by simp; omega
  refine ⟨_, cap - p, by unfold sliced; rw [hlen], by omega, by omega, ?_⟩
  rcases g3 with rfl | ⟨b, off, rfl, hc⟩
  · left; simp
  · by_cases hcp : cap = p
    · have e0 : (l.drop p).take (q - p) = [] := List.eq_nil_of_length_eq_zero (by omega)
      right
      refine ⟨b, off, by simp [hcp], fun i hi => ?_⟩
      rw [e0] at hi; simp at hi
    · right
      refine ⟨b, off + p, ?_, fun i hi => ?_⟩
      · have : (⟨b, off, none⟩ : Addr).add (p * 1) = ⟨b, off + p, none⟩ := by unfold Addr.add; split <;> simp_all
        rw [if_neg hcp, Option.map_some, this]
      · have := hc (p + i) (by omega)
        rw [Nat.add_assoc, this]
        congr 2
        simp
theorem sliced_own {ao : Option Addr} {cap n p q : Nat} : ∀ k, (sliced ao p q cap 1).ownBlock = some k → (Value.slice ao n cap).ownBlock = some k := by
  intro k hk
  unfold sliced at hk
  rcases ao with _ | ⟨b, off, sp⟩
  · split at hk <;> simp [Value.ownBlock] at hk
  · split at hk
    · exact hk
    · have : ((⟨b, off, sp⟩ : Addr).add (p * 1)).block = b := by unfold Addr.add; split <;> rfl
      simp only [Option.map_some, Value.ownBlock, Option.some.injEq] at hk ⊢
      rw [this] at hk; exact hk

/-- 'v[p:]' of a slice of bytes. -/
theorem slice_from {v : Value} {l : List UInt8} {w0 : World} (h : Bytes w0 v l) (p : Nat) (hq : p ≤ l.length) :
    ∃ vs, (∀ w, (Instr.sliceAt 27 v (some (.int .i64 (p : Int))) none none).run Try.prog w = .ok vs w) ∧
      (∀ w, Bytes w v l → Bytes w vs (l.drop p)) ∧ (∀ k, vs.ownBlock = some k → v.ownBlock = some k) := by
  obtain ⟨ao, cap, rfl, h1, h2, h3⟩ := h
  refine ⟨sliced ao p l.length cap 1, fun w => ?_, fun w hb => ?_, sliced_own⟩
  · have e : Try.prog.elem 27 = 5 := by unfold Program.elem; rw [Try.underlying27]
    have hU : Try.prog.underlying 27 = some (.slice (Try.prog.elem 27)) := by rw [e]; exact Try.underlying27
    rw [run_sliceAt_slice (P := Try.prog) (w := w) (h := hU), run_slice_l (P := Try.prog) (ht := hU) (h0 := by omega) (h1 := by omega)]
    obtain ⟨i0, hi, hz0, hz1, hz2⟩ := info_parts Try.info5
    simp [sizeOf, typeInfo, e, hi, hz1]
  · have := Bytes_sliced hb p l.length hq (Nat.le_refl _)
    rw [List.take_of_length_le (by simp)] at this
    exact this

theorem rnumber_quiet (v : Value) (l : List UInt8) (w : World) (hb : Bytes w v l) (N s y : Nat) (h : numR l = (N, s, y)) (n : Nat) :
    Calls Try.prog 56 #[v] (w.drewN n) fun e w'' => e = .returned (.tuple #[.int .u64 (N : Int), .int .i64 (s : Int), .int .i64 (y : Int)]) ∧ ∃ m, w'' = w.drewN m := by
  refine (rnumber_any v l _ (Bytes_drewN hb n)).mono ?_
  rintro e w' ⟨rfl, rfl⟩
  rw [h]
  exact ⟨rfl, n, rfl⟩

theorem numF_ok (b : List UInt8) : ∀ (k i n N s y : Nat), n < 18446744073709551616 → numF b k i n = (N, s, y) →
    (y = 0 ∧ i < s ∧ s ≤ i + k ∧ s ≤ b.length ∧ N < 18446744073709551616) ∨ (y = 10 ∧ N = 0 ∧ s = 0) ∨ (y = 12 ∧ N = 0 ∧ s = 0)
  | 0, i, n, N, s, y, hn, h => by simp only [numF, Prod.mk.injEq] at h; omega
  | k + 1, i, n, N, s, y, hn, h => by
    rw [numF] at h
    cases hc : b[i]? with
    | none => rw [hc] at h; simp only [Prod.mk.injEq] at h; omega
    | some c =>
      have hi := (List.getElem?_eq_some_iff.1 hc).1
      rw [hc] at h
      simp only at h
      split at h
      · rcases numF_ok b k (i + 1) _ N s y (acc_u64 _ _ _) h with h | h | h <;> omega
      · have ha := acc_u64 n i c.toNat
        split at h
        · simp only [Prod.mk.injEq] at h; omega
        · simp only [Prod.mk.injEq] at h
          obtain ⟨rfl, rfl, rfl⟩ := h
          left; omega
theorem numR_ok {b : List UInt8} {N s y : Nat} (h : numR b = (N, s, y)) :
    (y = 0 ∧ 0 < s ∧ s ≤ 10 ∧ s ≤ b.length ∧ N < 18446744073709551616) ∨ (y = 10 ∧ N = 0 ∧ s = 0) ∨ (y = 12 ∧ N = 0 ∧ s = 0) := by
  have := numF_ok b 10 0 0 N s y (by decide) h
  omega

/-- Reader.Number on the reader's state: what it becomes, what is given. -/
def RS.number (r : RS) (most : Int) : RS × Nat :=
  if r.why = 0 then
    match numR (r.l.drop r.p) with
    | (N, s, y) =>
      if y = 10 then ({ r with why := 10, no := r.l.length }, 0)
      else if y ≠ 0 then ({ r with why := y, no := r.p }, 0)
      else if most < N then ({ r with why := 3, no := r.p }, 0)
      else ({ r with p := r.p + s }, N)
  else (r, 0)
def RNumP (a : Nat) (v : Value) (r : RS) (most : Int) (w : World) (e : Ending) (w' : World) : Prop :=
  e = .returned (.int .u64 ((r.number most).2 : Int)) ∧ RdPost a v (r.number most).1 w w'

set_option maxHeartbeats 1000000 in
set_option maxRecDepth 100000 in
theorem rnum_any (a : Nat) (v : Value) (r : RS) (most : Int) (w : World) (hr : Rd w a v r) :
    Calls Try.prog 28 #[.pointer (some ⟨a, 0, none⟩), .int .u64 most] w (RNumP a v r most w) := by
  have c0 := hr.get0
  have c1 := hr.get1
  have c2 := hr.get2
  have f1 := hr.free 1
  have hle := hr.le
  have hsm := hr.small
  by_cases h1 : r.why = 0
  · have g1 : (r.why != 0) = false := by simp [h1]
    obtain ⟨vs, s1, s2, s3⟩ := slice_from hr.bytes r.p hr.le
    obtain ⟨N, s, y, hN⟩ : ∃ N s y, numR (r.l.drop r.p) = (N, s, y) := ⟨_, _, _, rfl⟩
    have HQ : Hid (∀ n, Calls Try.prog 56 #[vs] (w.drewN n) fun e w'' => e = .returned (.tuple #[.int .u64 (N : Int), .int .i64 (s : Int), .int .i64 (y : Int)]) ∧ ∃ m, w'' = w.drewN m) :=
      fun n => rnumber_quiet vs _ w (s2 w hr.bytes) N s y hN n
    have hok := numR_ok hN
    have HN := Lib.hid hN
    have hsh : ∃ ao cap, v = .slice ao r.l.length cap := by
      obtain ⟨ao, cap, rfl, _⟩ := hr.bytes
      exact ⟨ao, cap, rfl⟩
    obtain ⟨ao, cap, rfl⟩ := hsh
    have hvs : ∃ ao' n' c', vs = .slice ao' n' c' := by
      obtain ⟨ao', c', h, _⟩ := s2 w hr.bytes
      exact ⟨_, _, _, h⟩
    obtain ⟨ao', n', c', rfl⟩ := hvs
    rw [List.length_drop] at hok
    clear s2 s3 hN
    rcases hok with ⟨hy, hs0, hs10, hsl, hNlt⟩ | ⟨hy, rfl, rfl⟩ | ⟨hy, rfl, rfl⟩
    · have y1 : ((y : Int) == 10) = false := by simp; omega
      have y2 : ((y : Int) != 0) = false := by simp [hy]
      by_cases hm : most < N
      · have HR : Hid (r.number most = (r.refuse 3 r.p, 0)) := by show _ = _; simp [RS.number, RS.refuse, h1, HN.out, hy, hm]
        clear h1 hy hNlt
        go_enter Try.func28, Try.ntmps28
        go_wp2
        go_quiet ((go_at_call 56; exact HQ.out _))
        go_wp2_with fail
        refine (rrefuse_any a _ r _ _ _ (Rd_drewN hr _)).mono ?_
        rintro e w1 ⟨rfl, hp⟩
        have HP := Lib.hid hp
        clear hp
        go_wp2
        go_ret
        refine ⟨by rw [HR.out]; rfl, ?_⟩
        rw [HR.out]; exact RdPost.trans ((Upd.refl _ w).drewN _) HP.out
      · have HR : Hid (r.number most = ({ r with p := r.p + s }, N)) := by show _ = _; simp [RS.number, h1, HN.out, hy, hm]
        have hle2 : r.p + s ≤ r.l.length := by omega
        clear h1 hy hNlt
        go_enter Try.func28, Try.ntmps28
        go_wp2
        go_quiet ((go_at_call 56; exact HQ.out _))
        go_wp2
        go_ret
        have e1 : ((r.p + s : Nat) : Int) = (r.p : Int) + s := by omega
        have HS := hr.set1 (r.p + s) hle2
        rw [e1] at HS
        have HU : Upd (fun k => k = a) w (w.setCell ⟨a, 1, none⟩ (.int .i64 ((r.p : Int) + s))) := (Upd.refl (fun k => k = a) w).setCell (p := ⟨a, 1, none⟩) (fun _ => rfl) _
        refine ⟨by rw [HR.out]; rfl, ?_⟩
        rw [HR.out]; exact ⟨Rd_drewN HS _, HU.drewN _⟩
    · have HR : Hid (r.number most = (r.refuse y r.l.length, 0)) := by show _ = _; simp [RS.number, RS.refuse, h1, HN.out, hy]
      have y1 : ((y : Int) == 10) = true := by simp [hy]
      clear h1 hy
      go_enter Try.func28, Try.ntmps28
      go_wp2
      go_quiet ((go_at_call 56; exact HQ.out _))
      go_wp2_with fail
      refine (rrefuse_any a _ r _ _ _ (Rd_drewN hr _)).mono ?_
      rintro e w1 ⟨rfl, hp⟩
      have HP := Lib.hid hp
      clear hp
      go_wp2
      go_ret
      refine ⟨by rw [HR.out]; rfl, ?_⟩
      rw [HR.out]; exact RdPost.trans ((Upd.refl _ w).drewN _) HP.out
    · have HR : Hid (r.number most = (r.refuse y r.p, 0)) := by show _ = _; simp [RS.number, RS.refuse, h1, HN.out, hy]
      have y1 : ((y : Int) == 10) = false := by simp [hy]
      have y2 : ((y : Int) != 0) = true := by simp [hy]
      clear h1 hy
      go_enter Try.func28, Try.ntmps28
      go_wp2
      go_quiet ((go_at_call 56; exact HQ.out _))
      go_wp2_with fail
      refine (rrefuse_any a _ r _ _ _ (Rd_drewN hr _)).mono ?_
      rintro e w1 ⟨rfl, hp⟩
      have HP := Lib.hid hp
      clear hp
      go_wp2
      go_ret
      refine ⟨by rw [HR.out]; rfl, ?_⟩
      rw [HR.out]; exact RdPost.trans ((Upd.refl _ w).drewN _) HP.out
  · have g1 : (r.why != 0) = true := by simp [h1]
    have HR : Hid (r.number most = (r, 0)) := by show _ = _; simp [RS.number, h1]
    clear h1
    go_enter Try.func28, Try.ntmps28
    go_wp2
    go_ret
    refine ⟨by rw [HR.out]; rfl, by rw [HR.out]; exact RdPost.refl hr⟩
end Go.Proofs.Ytbpeoclhabgcgaa
