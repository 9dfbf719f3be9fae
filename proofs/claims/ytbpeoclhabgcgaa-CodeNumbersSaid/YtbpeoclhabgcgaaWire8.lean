import Derived.Test.YtbpeoclhabgcgaaWire7
import Derived.Laws.DeepNot64
namespace Go.Proofs.Ytbpeoclhabgcgaa
open Go.RowKit
set_option linter.unusedVariables false
set_option linter.unusedSimpArgs false

def unzig (N : Nat) : Int := if N % 2 = 1 then -((N / 2 : Nat) : Int) - 1 else ((N / 2 : Nat) : Int)
theorem xor0 (a : Nat) (h : a < 9223372036854775808) : bits .xor .i64 (a : Int) 0 = (a : Int) := by
  show IntKind.i64.wrap (((BitVec.ofInt 64 (a : Int) ^^^ BitVec.ofInt 64 0).toNat : Nat) : Int) = a
  have e : (BitVec.ofInt 64 (a : Int) ^^^ BitVec.ofInt 64 0).toNat = a := by
    rw [BitVec.toNat_xor, ofInt_u64 a (by omega)]
    have : (BitVec.ofInt 64 0).toNat = 0 := by decide
    rw [this, Nat.xor_zero]
  rw [e, IntWalk.i64_in _ (by omega)]
theorem xorm1 (a : Nat) (h : a < 9223372036854775808) : bits .xor .i64 (a : Int) (-1) = -(a : Int) - 1 := by
  have hc : bits .xor .i64 (a : Int) (-1) = bits .xor .i64 (-1) (a : Int) := by simp only [bits, BitVec.xor_comm]
  rw [hc, i64_not a h]; omega
theorem unzig_eq (N : Nat) (h : N < 18446744073709551616) :
    bits BinOp.xor IntKind.i64 (wrap64 ((N : Int) / 2)) (wrap64 (-wrap64 (bits BinOp.and IntKind.u64 (N : Int) 1))) = unzig N := by
  have e1 : bits BinOp.and IntKind.u64 (N : Int) 1 = ((N % 2 : Nat) : Int) := by
    have := u64_and_nat N 1 h (by decide)
    rw [show ((1 : Nat) : Int) = 1 from rfl, Nat.and_one_is_mod] at this
    exact this
  have e2 : wrap64 ((N : Int) / 2) = ((N / 2 : Nat) : Int) := by rw [IntWalk.wrap64_in _ (by omega)]; omega
  have e3 : wrap64 ((N % 2 : Nat) : Int) = ((N % 2 : Nat) : Int) := IntWalk.wrap64_in _ (by omega)
  have e4 : wrap64 (-((N % 2 : Nat) : Int)) = -((N % 2 : Nat) : Int) := IntWalk.wrap64_in _ (by omega)
  rw [e1, e2, e3, e4]
  unfold unzig
  split
  · rename_i h1
    rw [h1, show (-((1 : Nat) : Int)) = -1 from rfl, xorm1 _ (by omega)]
  · rename_i h1
    have : N % 2 = 0 := by omega
    rw [this, show (-((0 : Nat) : Int)) = 0 from rfl, xor0 _ (by omega)]

def maxU : Int := 18446744073709551615
def RS.signed (r : RS) : RS × Int := ((r.number maxU).1, unzig (r.number maxU).2)
theorem RS.number_lt (r : RS) (most : Int) : (r.number most).2 < 18446744073709551616 := by
  unfold RS.number
  split
  · obtain ⟨N, s, y, hN⟩ : ∃ N s y, numR (r.l.drop r.p) = (N, s, y) := ⟨_, _, _, rfl⟩
    have := numR_ok hN
    rw [hN]
    simp only
    split
    · exact Nat.zero_lt_succ _
    · split
      · exact Nat.zero_lt_succ _
      · split
        · exact Nat.zero_lt_succ _
        · show N < _; omega
  · exact Nat.zero_lt_succ _

set_option maxHeartbeats 1000000 in
set_option maxRecDepth 100000 in
theorem rsigned_any (a : Nat) (v : Value) (r : RS) (w : World) (hr : Rd w a v r) :
    Calls Try.prog 31 #[.pointer (some ⟨a, 0, none⟩)] w fun e w' => e = .returned (.int .i64 r.signed.2) ∧ RdPost a v r.signed.1 w w' := by
  unfold RS.signed
  have hlt := r.number_lt maxU
  have HU := Lib.hid (unzig_eq _ hlt)
  clear hlt
  go_enter Try.func31, Try.ntmps31
  go_wp2_with fail
  refine (rnum_any a v r _ _ hr).mono ?_
  rw [show (18446744073709551615 : Int) = maxU from rfl]
  rintro e w1 ⟨rfl, hp⟩
  have HP := Lib.hid hp
  clear hp
  go_wp2
  go_ret
  refine ⟨?_, HP.out⟩
  rw [← HU.out]; rfl

def RawP (a : Nat) (v : Value) (r : RS) (n : Int) (w : World) (e : Ending) (w' : World) : Prop :=
  ∃ v', e = .returned v' ∧ w'.ownsRow w.heap.size 5 1 v' (r.took n).length (bytesV (r.took n)) ∧ RdPost a v (r.take n) w w'

theorem took_len (r : RS) (n : Int) : (r.took n).length ≤ r.l.length := by
  unfold RS.took
  split
  · rw [List.length_take, List.length_drop]; omega
  · simp

set_option maxHeartbeats 1000000 in
set_option maxRecDepth 100000 in
theorem rraw_any (a : Nat) (v : Value) (r : RS) (n : Int) (w : World) (hr : Rd w a v r) (hn : n ≤ 9223372036854775807) :
    Calls Try.prog 25 #[.pointer (some ⟨a, 0, none⟩), .int .i64 n] w (RawP a v r (max n 0) w) := by
  have core : ∀ m : Int, 0 ≤ m → m ≤ 9223372036854775807 → ∀ K : Act → World → Prop, True := fun _ _ _ _ => trivial
  by_cases h : 0 ≤ n
  · have hm : max n 0 = n := by omega
    rw [hm]
    clear hm core
    go_enter Try.func25, Try.ntmps25
    go_wp2_with fail
    refine (rtake_any a v r n _ hr h hn).mono ?_
    rintro e w1 ⟨vs, rfl, hb, hp, ho⟩
    have HB := Lib.hid hb
    have HP := Lib.hid hp
    clear hb hp ho
    go_wp2_with fail
    refine (clone_any vs _ _ HB.out (by have := took_len r n; have := hr.small; omega)).mono ?_
    rintro e w2 ⟨v2, rfl, ho, hu⟩
    have HO := Lib.hid ho
    have HU := Lib.hid hu
    clear ho hu
    go_wp2
    go_ret
    refine ⟨v2, rfl, ownsRow_base HO.out (fun k hk => Nat.le_trans HP.out.2.size (HO.out.lt k hk).1), ?_, ?_⟩
    · exact HP.out.1.upd HU.out (fun _ _ _ h => h)
    · exact HP.out.2.trans HU.out (fun _ _ h => h.elim)
  · have hm : max n 0 = 0 := by omega
    have hlt : n < 0 := by omega
    rw [hm]
    clear hm core h
    go_enter Try.func25, Try.ntmps25
    go_wp2_with fail
    refine (rtake_any a v r 0 _ hr (by omega) (by omega)).mono ?_
    rintro e w1 ⟨vs, rfl, hb, hp, ho⟩
    have HB := Lib.hid hb
    have HP := Lib.hid hp
    clear hb hp ho
    go_wp2_with fail
    refine (clone_any vs _ _ HB.out (by have := took_len r 0; have := hr.small; omega)).mono ?_
    rintro e w2 ⟨v2, rfl, ho, hu⟩
    have HO := Lib.hid ho
    have HU := Lib.hid hu
    clear ho hu
    go_wp2
    go_ret
    refine ⟨v2, rfl, ownsRow_base HO.out (fun k hk => Nat.le_trans HP.out.2.size (HO.out.lt k hk).1), ?_, ?_⟩
    · exact HP.out.1.upd HU.out (fun _ _ _ h => h)
    · exact HP.out.2.trans HU.out (fun _ _ h => h.elim)

/-- The text of some bytes. -/
def strOf (l : List UInt8) : ByteArray := ⟨l.toArray⟩
theorem foldl_push (l : List UInt8) : ∀ acc : ByteArray, (l.map (fun b => (b.toNat : Int))).foldl (fun r n => r.push (UInt8.ofNat n.toNat)) acc = ⟨acc.data ++ l.toArray⟩ := by
  induction l with
  | nil => intro acc; simp
  | cons b l ih =>
    intro acc
    simp only [List.map_cons, List.foldl_cons]
    rw [ih]
    congr 1
    have : UInt8.ofNat ((b.toNat : Int).toNat) = b := by simp
    rw [this]
    simp [ByteArray.push]
theorem str_of {w : World} {v : Value} {l : List UInt8} (h : Bytes w v l) : (convert 27 9 v).run Try.prog w = .ok (.string (strOf l)) w := by
  obtain ⟨ao, cap, rfl, h1, h2, h3⟩ := h
  rw [run_convert_bytes_string (P := Try.prog) w 27 9 5 ao l.length cap Try.underlying27 Try.underlying5 Try.underlying9]
  rcases h3 with rfl | ⟨b, off, rfl, hc⟩
  · cases ao with
    | none => rfl
    | some a =>
      have hl := run_loadCells_list (P := Try.prog) w a [] (fun j u hj => by simp at hj)
      have := run_bytesToString (P := Try.prog) w a 0 cap [] hl
      exact this
  · have hl := run_loadCells_list (P := Try.prog) w ⟨b, off, none⟩ (bytesV l) (fun j u hj => by
      have hj' : j < l.length := by
        have := (List.getElem?_eq_some_iff.1 hj).1
        simpa [bytesV] using this
      rw [bytesV_get l j hj'] at hj
      have hadd : (⟨b, off, none⟩ : Addr).add j = ⟨b, off + j, none⟩ := by unfold Addr.add; split <;> simp_all
      rw [hadd, hc j hj']
      exact hj)
    rw [bytesV_length] at hl
    have e1 : bytesV l = (l.map (fun b => (b.toNat : Int))).map (Value.int .u8) := by simp [bytesV, byteV]
    rw [e1] at hl
    rw [run_bytesToString w ⟨b, off, none⟩ l.length cap _ hl, foldl_push]
    simp [strOf]

def RS.text (r : RS) (most : Int) : RS × List UInt8 := (((r.number (max most 0)).1.take (r.number (max most 0)).2), ((r.number (max most 0)).1.took (r.number (max most 0)).2))
theorem RS.number_most (r : RS) (most : Int) (h0 : 0 ≤ most) : ((r.number most).2 : Int) ≤ most := by
  unfold RS.number
  split
  · obtain ⟨N, s, y, hN⟩ : ∃ N s y, numR (r.l.drop r.p) = (N, s, y) := ⟨_, _, _, rfl⟩
    rw [hN]
    simp only
    split
    · exact h0
    · split
      · exact h0
      · split
        · exact h0
        · show (N : Int) ≤ _; omega
  · exact h0
def TextP (a : Nat) (v : Value) (r : RS) (n : Int) (w : World) (e : Ending) (w' : World) : Prop :=
  e = .returned (.string (strOf (r.text n).2)) ∧ RdPost a v (r.text n).1 w w'

set_option maxHeartbeats 1000000 in
set_option maxRecDepth 100000 in
theorem rtext_any (a : Nat) (v : Value) (r : RS) (n : Int) (w : World) (hr : Rd w a v r) (hn : n ≤ 9223372036854775807) :
    Calls Try.prog 30 #[.pointer (some ⟨a, 0, none⟩), .int .i64 n] w (TextP a v r n w) := by
  by_cases h : 0 ≤ n
  · have HT : Hid (r.text n = (((r.number n).1.take (r.number n).2), ((r.number n).1.took (r.number n).2))) := by
      show _ = _
      unfold RS.text; rw [show max n 0 = n by omega]
    have hmo := r.number_most n h
    go_enter Try.func30, Try.ntmps30
    go_wp2_with fail
    refine (rnum_any a v r n _ hr).mono ?_
    rintro e w1 ⟨rfl, hp⟩
    have HP := Lib.hid hp
    clear hp
    generalize (r.number n).1 = r1 at *
    generalize (r.number n).2 = m at *
    go_wp2_with fail
    refine (rtake_any a v r1 m _ HP.out.1 (by omega) (by omega)).mono ?_
    rintro e w2 ⟨vs, rfl, hb, hp, ho⟩
    have hs := str_of hb
    have HQ := Lib.hid hp
    clear hb hp ho
    go_wp2
    go_ret
    refine ⟨by rw [HT.out]; rfl, ?_⟩
    rw [HT.out]
    exact RdPost.trans HP.out.2 HQ.out
  · have HT : Hid (r.text n = (((r.number 0).1.take (r.number 0).2), ((r.number 0).1.took (r.number 0).2))) := by
      show _ = _
      unfold RS.text; rw [show max n 0 = 0 by omega]
    have hmo := r.number_most 0 (by omega)
    have hlt : n < 0 := by omega
    clear h
    go_enter Try.func30, Try.ntmps30
    go_wp2_with fail
    refine (rnum_any a v r 0 _ hr).mono ?_
    rintro e w1 ⟨rfl, hp⟩
    have HP := Lib.hid hp
    clear hp
    generalize (r.number 0).1 = r1 at *
    generalize (r.number 0).2 = m at *
    go_wp2_with fail
    refine (rtake_any a v r1 m _ HP.out.1 (by omega) (by omega)).mono ?_
    rintro e w2 ⟨vs, rfl, hb, hp, ho⟩
    have hs := str_of hb
    have HQ := Lib.hid hp
    clear hb hp ho
    go_wp2
    go_ret
    refine ⟨by rw [HT.out]; rfl, ?_⟩
    rw [HT.out]
    exact RdPost.trans HP.out.2 HQ.out
end Go.Proofs.Ytbpeoclhabgcgaa
