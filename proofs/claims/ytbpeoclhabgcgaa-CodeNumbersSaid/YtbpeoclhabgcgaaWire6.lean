import Derived.Test.YtbpeoclhabgcgaaWire5
namespace Go.Proofs.Ytbpeoclhabgcgaa
open Go.RowKit
set_option linter.unusedVariables false
set_option linter.unusedSimpArgs false

/-- 'v[p:q]' of a slice of bytes. -/
theorem slice_of {v : Value} {l : List UInt8} {w0 : World} (h : Bytes w0 v l) (p q : Nat) (hpq : p ≤ q) (hq : q ≤ l.length) :
    ∃ vs, (∀ w, (Instr.sliceAt 27 v (some (.int .i64 (p : Int))) (some (.int .i64 (q : Int))) none).run Try.prog w = .ok vs w) ∧
      (∀ w, Bytes w v l → Bytes w vs ((l.drop p).take (q - p))) ∧ (∀ k, vs.ownBlock = some k → v.ownBlock = some k) := by
  obtain ⟨ao, cap, rfl, h1, h2, h3⟩ := h
  refine ⟨sliced ao p q cap 1, fun w => ?_, fun w hb => ?_, fun k hk => ?_⟩
  · have e : Try.prog.elem 27 = 5 := by unfold Program.elem; rw [Try.underlying27]
    have hU : Try.prog.underlying 27 = some (.slice (Try.prog.elem 27)) := by rw [e]; exact Try.underlying27
    rw [run_sliceAt_slice (P := Try.prog) (w := w) (h := hU), run_slice_lh (P := Try.prog) (ht := hU) (h0 := by omega) (h1 := by omega) (h2 := by omega)]
    obtain ⟨i0, hi, hz0, hz1, hz2⟩ := info_parts Try.info5
    simp [sizeOf, typeInfo, e, hi, hz1]
  · obtain ⟨ao', cap', hv, g1, g2, g3⟩ := hb
    simp only [Value.slice.injEq] at hv
    obtain ⟨rfl, _, rfl⟩ := hv
    have hlen : ((l.drop p).take (q - p)).length = q - p := by simp; omega
    refine ⟨_, cap - p, by unfold sliced; rw [hlen], by omega, by omega, ?_⟩
    rcases g3 with rfl | ⟨b, off, rfl, hc⟩
    · left; simp
    · by_cases hcp : cap = p
      · have e0 : (l.drop p).take (q - p) = [] := List.eq_nil_of_length_eq_zero (by omega)
        right
        refine ⟨b, off, by simp [hcp], fun i hi => ?_⟩
        rw [e0] at hi; simp at hi
      · right
        refine ⟨b, off + p, ?_, fun i hi => ?_⟩
        · have : (⟨b, off, none⟩ : Addr).add (p * 1) = ⟨b, off + p, none⟩ := by unfold Addr.add; split <;> simp_all
          rw [if_neg hcp, Option.map_some, this]
        · have := hc (p + i) (by omega)
          rw [Nat.add_assoc, this]
          congr 2
          simp
  · unfold sliced at hk
    rcases ao with _ | ⟨b, off, sp⟩
    · split at hk <;> simp [Value.ownBlock] at hk
    · split at hk
      · exact hk
      · have : ((⟨b, off, sp⟩ : Addr).add (p * 1)).block = b := by unfold Addr.add; split <;> rfl
        simp only [Option.map_some, Value.ownBlock, Option.some.injEq] at hk ⊢
        rw [this] at hk; exact hk

theorem Bytes_drewN {w : World} {v : Value} {l : List UInt8} (h : Bytes w v l) (n : Nat) : Bytes (w.drewN n) v l := Bytes_upd h ((Upd.refl (fun _ => False) w).drewN n) (fun _ _ h => h)
theorem Rd_drewN {w : World} {a : Nat} {v : Value} {r : RS} (h : Rd w a v r) (n : Nat) : Rd (w.drewN n) a v r := h.upd ((Upd.refl (fun _ => False) w).drewN n) (fun _ _ _ h => h)

def RS.take (r : RS) (n : Int) : RS := if r.why = 0 then (if (r.l.length : Int) - r.p < n then { r with why := 10, no := r.l.length } else { r with p := r.p + n.toNat }) else r
def RS.took (r : RS) (n : Int) : List UInt8 := if r.why = 0 ∧ ¬ (r.l.length : Int) - r.p < n then (r.l.drop r.p).take n.toNat else []
/-- What take leaves. -/
def TakeP (a : Nat) (v : Value) (r : RS) (n : Int) (w : World) (e : Ending) (w' : World) : Prop :=
  ∃ vs, e = .returned vs ∧ Bytes w' vs (r.took n) ∧ RdPost a v (r.take n) w w' ∧ ∀ k, vs.ownBlock = some k → v.ownBlock = some k

set_option maxHeartbeats 1000000 in
set_option maxRecDepth 100000 in
theorem rtake_any (a : Nat) (v : Value) (r : RS) (n : Int) (w : World) (hr : Rd w a v r) (h0 : 0 ≤ n) (hn : n ≤ 9223372036854775807) :
    Calls Try.prog 54 #[.pointer (some ⟨a, 0, none⟩), .int .i64 n] w (TakeP a v r n w) := by
  have c0 := hr.get0
  have c1 := hr.get1
  have c2 := hr.get2
  have f1 := hr.free 1
  have hle := hr.le
  have hsm := hr.small
  have hb := hr.bytes
  obtain ⟨m, rfl⟩ := Int.eq_ofNat_of_zero_le h0
  by_cases h1 : r.why = 0
  · have g1 : (r.why != 0) = false := by simp [h1]
    by_cases h2 : (r.l.length : Int) - r.p < m
    · have HT : Hid (r.take m = r.refuse 10 r.l.length) := by show _ = _; simp [RS.take, RS.refuse, h1, h2]
      have HK : Hid (r.took m = []) := by show _ = _; simp [RS.took, h2]
      have hsh : ∃ ao cap, v = .slice ao r.l.length cap := by
        obtain ⟨ao, cap, rfl, _⟩ := hb
        exact ⟨ao, cap, rfl⟩
      obtain ⟨ao, cap, rfl⟩ := hsh
      clear h1 hb
      go_enter Try.func54, Try.ntmps54
      go_wp2
      go_quiet (fail)
      go_wp2_with fail
      refine (rrefuse_any a _ r _ _ _ (Rd_drewN hr _)).mono ?_
      rintro e w1 ⟨rfl, hp⟩
      have HP := Lib.hid hp
      clear hp
      go_wp2
      go_ret
      refine ⟨_, rfl, ?_, ?_, fun k hk => by simp [Value.ownBlock] at hk⟩
      · rw [HK.out]; exact ⟨none, 0, rfl, by simp, by simp [maxLen], .inl rfl⟩
      · rw [HT.out]; exact RdPost.trans ((Upd.refl _ w).drewN _) HP.out
    · obtain ⟨vs, s1, s2, s3⟩ := slice_of hb r.p (r.p + m) (by omega) (by omega)
      have e1 : ((r.p + m : Nat) : Int) = (r.p : Int) + m := by omega
      rw [e1] at s1
      have HT : Hid (r.take m = { r with p := r.p + m }) := by show _ = _; simp [RS.take, h1, h2]
      have HK : Hid (r.took m = (r.l.drop r.p).take (r.p + m - r.p)) := by show _ = _; simp [RS.took, h1, h2]
      have S2 := Lib.hid s2
      have S3 := Lib.hid s3
      have E1 := Lib.hid e1
      have hsh : ∃ ao cap, v = .slice ao r.l.length cap := by
        obtain ⟨ao, cap, rfl, _⟩ := hb
        exact ⟨ao, cap, rfl⟩
      have hlt : (m : Int) ≤ (r.l.length : Int) - r.p := by omega
      have hvs : ∃ ao' n' c', vs = .slice ao' n' c' := by
        obtain ⟨ao', c', h, _⟩ := s2 w hb
        exact ⟨_, _, _, h⟩
      obtain ⟨ao, cap, rfl⟩ := hsh
      obtain ⟨ao', n', c', rfl⟩ := hvs
      have HB := Lib.hid hb
      clear h1 hb s2 s3 e1 h2
      go_enter Try.func54, Try.ntmps54
      go_wp2
      go_quiet (fail)
      go_wp2
      go_quiet (fail)
      go_wp2
      go_ret
      have HR := hr.set1 (r.p + m) (by omega)
      rw [E1.out] at HR
      have HU : Upd (fun k => k = a) w (w.setCell ⟨a, 1, none⟩ (.int .i64 ((r.p : Int) + m))) := (Upd.refl (fun k => k = a) w).setCell (p := ⟨a, 1, none⟩) (fun _ => rfl) _
      refine ⟨_, rfl, ?_, ?_, S3.out⟩
      · rw [HK.out]
        exact Bytes_drewN (S2.out _ (Bytes_upd HB.out HU (fun k hk e => hr.apart (by rw [hk, e])))) _
      · rw [HT.out]
        exact ⟨Rd_drewN HR _, HU.drewN _⟩
  · have g1 : (r.why != 0) = true := by simp [h1]
    have HT : Hid (r.take m = r) := by show _ = _; simp [RS.take, h1]
    have HK : Hid (r.took m = []) := by show _ = _; simp [RS.took, h1]
    clear h1 hb
    go_enter Try.func54, Try.ntmps54
    go_wp2
    go_ret
    refine ⟨_, rfl, ?_, ?_, fun k hk => by simp [Value.ownBlock] at hk⟩
    · rw [HK.out]; exact ⟨none, 0, rfl, by simp, by simp [maxLen], .inl rfl⟩
    · rw [HT.out]; exact RdPost.refl hr
end Go.Proofs.Ytbpeoclhabgcgaa
