import Derived.Test.YtbpeoclhabgcgaaWire
namespace Go.Proofs.Ytbpeoclhabgcgaa
open Go.RowKit
set_option linter.unusedVariables false
set_option linter.unusedSimpArgs false

/-- slices.Clone: new memory, the same bytes. -/
def Cloned (l : List UInt8) (w : World) (e : Ending) (w' : World) : Prop :=
  ∃ v', e = .returned v' ∧ w'.ownsRow w.heap.size 5 1 v' l.length (bytesV l) ∧ Upd (fun _ => False) w w'

set_option maxHeartbeats 400000 in
set_option maxRecDepth 100000 in
theorem clone_any (v : Value) (l : List UInt8) (w : World) (hb : Bytes w v l) (hl : l.length ≤ 140737488355328) : Calls Try.prog 52 #[v] w (Cloned l w) := by
  obtain ⟨i0, hi, hz0, hz1, hz2⟩ := info_parts Try.info5
  have hb' := hb
  obtain ⟨ao, cap, rfl, h1, h2, h3⟩ := hb
  have q := fun (w : World) => Lib.run_eql_slice_nil (P := Try.prog) w 27 5 ao l.length cap 0 0 Try.underlying27
  cases ao with
  | none =>
    have hl0 : l = [] := by
      rcases h3 with h | ⟨b, off, h, _⟩
      · exact h
      · cases h
    subst hl0
    simp only [List.length_nil] at q ⊢
    go_enter Try.func52, Try.ntmps52
    go_wp2
    go_ret
    exact ⟨_, rfl, World.ownsRow_nil _ _ _ _, Upd.refl _ _⟩
  | some a0 =>
    have HB : Hid (Bytes (w.alloc (.cells #[] 5)) (.slice (some a0) l.length cap) l) := by
      refine Bytes_upd hb' ((Upd.refl (fun _ => False) w).alloc _) (fun _ _ h => h)
    have HO : Hid ((w.alloc (.cells #[] 5)).ownsRow w.heap.size 5 1 (.slice (some ⟨w.heap.size, 0, none⟩) 0 0) 0 []) := World.ownsRow_lit w #[] 0 (Nat.le_refl _) (by simp [maxLen]) rfl
    clear h3 hb'
    go_enter Try.func52, Try.ntmps52
    go_wp2_with (at_builtin; go_must (refine wpList_append_src_own _ rfl (.tmp 5) (.tmp 6) 27 27 rfl w.heap.size 5 i0 (.int .u8 0) 1 1 Try.underlying27 hi hz0 hz1 hz2 rfl _ 0 [] rfl HO.out _ l.length (bytesV l) rfl (Src.ofBytes Try.underlying27 HB.out) (by omega) (by omega) (by simp) ?c5))
    case c5 =>
    intro v' w1 hown hgrow hnew hshape
    have HN := Lib.hid hown
    have HG := Lib.hid hgrow
    clear hown hgrow hnew hshape
    go_wp2
    go_ret
    refine ⟨_, rfl, by simpa using HN.out, ?_⟩
    exact ((Upd.refl _ w).alloc _).grown HG.out (fun k hk hlt => by simp [Value.ownBlock] at hk; omega)

theorem Wr_put2 {w w1 : World} {a : Nat} {v v' : Value} {l m : List UInt8} (h : Wr w a v l)
    (hown : w1.ownsRow (a + 1) 5 1 v' (l.length + m.length) (bytesV l ++ bytesV m)) (hg : w.grownBy w1 v.ownBlock)
    (hnew : ∀ k, v'.ownBlock = some k → v.ownBlock = some k ∨ w.heap.size ≤ k) : WrPost a v (l ++ m) w (w1.setCell ⟨a, 0, none⟩ v') := by
  have hu : Upd (fun k => v.ownBlock = some k) w w1 := (Upd.refl _ w).grown hg (fun _ h _ => h)
  have hc : w1.heap[a]? = some (.cells #[v] 87 (0, 0)) := hu.heap_some h.cell (fun e => h.ne e)
  refine ⟨v', ⟨?_, ?_⟩, (hu.mono (fun k _ hk => .inr hk)).setCell (fun _ => .inl rfl) _, hnew⟩
  · rw [heap_setCell_same w1 a 0 _ 87 _ hc]; rfl
  · have h1 := ownsRow_upd hown ((Upd.refl (fun k => k = a) w1).setCell (p := ⟨a, 0, none⟩) (fun _ => rfl) v') (fun k hk => by have := (hown.lt k hk).1; omega)
    rw [bytesV_append, List.length_append]
    exact h1
theorem Wr_put2n {w w1 : World} {a : Nat} {v v' : Value} {l m : List UInt8} {n : Nat} (h : Wr w a v l) (hn : n = m.length)
    (hown : w1.ownsRow (a + 1) 5 1 v' (l.length + n) (bytesV l ++ bytesV m)) (hg : w.grownBy w1 v.ownBlock)
    (hnew : ∀ k, v'.ownBlock = some k → v.ownBlock = some k ∨ w.heap.size ≤ k) : WrPost a v (l ++ m) w (w1.setCell ⟨a, 0, none⟩ v') := by
  subst hn; exact Wr_put2 h hown hg hnew
theorem Wr_after2 {w w1 : World} {a : Nat} {v : Value} {l : List UInt8} (h : Wr w a v l) (hg : w.grownBy w1 v.ownBlock) :
    w1.cell? ⟨a, 0, none⟩ = some v ∧ w1.frozen? ⟨a, 0, none⟩ = false := by
  have hu : Upd (fun k => v.ownBlock = some k) w w1 := (Upd.refl _ w).grown hg (fun _ h _ => h)
  exact ⟨(hu.cell (p := ⟨a, 0, none⟩) h.lt (fun e => h.ne e)).trans h.get, (hu.frozen (p := ⟨a, 0, none⟩) h.lt (fun e => h.ne e)).trans h.free⟩

def NewW (w : World) (e : Ending) (w' : World) : Prop :=
  ∃ a, e = .returned (.pointer (some ⟨a, 0, none⟩)) ∧ w.heap.size ≤ a ∧ Wr w' a (.slice none 0 0) [] ∧ Upd (fun _ => False) w w'

set_option maxHeartbeats 400000 in
set_option maxRecDepth 100000 in
theorem newWriter_any (w : World) : Calls Try.prog 13 #[] w (NewW w) := by
  go_enter Try.func13, Try.ntmps13
  go_wp2
  go_ret
  exact ⟨w.heap.size, rfl, Nat.le_refl _, ⟨heap_alloc_new w _, World.ownsRow_nil _ _ _ _⟩, (Upd.refl _ w).alloc _⟩

set_option maxHeartbeats 400000 in
set_option maxRecDepth 100000 in
theorem done_any (a : Nat) (v : Value) (l : List UInt8) (w : World) (hw : Wr w a v l) (hl : l.length ≤ 140737488355328) : Calls Try.prog 15 #[.pointer (some ⟨a, 0, none⟩)] w (Cloned l w) := by
  have hc := hw.get
  have HB := Lib.hid (Bytes_own hw.own)
  go_enter Try.func15, Try.ntmps15
  go_wp2_with (go_at_call 52; refine (clone_any v l _ HB.out hl).mono ?_; rintro e w' ⟨v', rfl, h2, h3⟩)
  go_ret
  exact ⟨_, rfl, by assumption, by assumption⟩

set_option maxHeartbeats 400000 in
set_option maxRecDepth 100000 in
theorem wraw_any (a : Nat) (v b : Value) (l m : List UInt8) (w : World) (hw : Wr w a v l) (hb : Bytes w b m) (hl : l.length + m.length ≤ 140737488355328) :
    Calls Try.prog 22 #[.pointer (some ⟨a, 0, none⟩), b] w fun e w' => e = .returned (.tuple #[]) ∧ WrPost a v (l ++ m) w w' := by
  obtain ⟨i0, hi, hz0, hz1, hz2⟩ := info_parts Try.info5
  have hc := hw.get
  have hlt := hw.lt
  have HB := Lib.hid hb
  clear hb
  go_enter Try.func22, Try.ntmps22
  go_wp2_with (at_builtin; go_must (refine wpList_append_src_own _ rfl (.tmp 8) (.tmp 9) 27 27 rfl (a + 1) 5 i0 (.int .u8 0) 1 1 Try.underlying27 hi hz0 hz1 hz2 rfl v l.length (bytesV l) rfl hw.own _ m.length (bytesV m) rfl (Src.ofBytes Try.underlying27 HB.out) (by unfold maxLen; omega) (by omega) (by omega) ?c5))
  case c5 =>
  intro v' w1 hown hgrow hnew hshape
  obtain ⟨k0, e0⟩ := Wr_after2 hw hgrow
  have HP := Lib.hid (Wr_put2 hw hown hgrow hnew)
  clear hown hgrow hnew
  rcases hshape with rfl | ⟨g, cap, rfl⟩
  all_goals
    go_wp2
    go_end0
    exact ⟨rfl, HP.out⟩

set_option maxHeartbeats 400000 in
set_option maxRecDepth 100000 in
theorem wtext_any (a : Nat) (v : Value) (s : ByteArray) (l : List UInt8) (w : World) (hw : Wr w a v l) (hl : l.length + s.size + 16 ≤ 140737488355328) :
    Calls Try.prog 20 #[.pointer (some ⟨a, 0, none⟩), .string s] w fun e w' => e = .returned (.tuple #[]) ∧ WrPost a v (l ++ encN s.size ++ s.data.toList) w w' := by
  obtain ⟨i0, hi, hz0, hz1, hz2⟩ := info_parts Try.info5
  have hs : U64 (s.size : Int) := ⟨by omega, by omega⟩
  have he := encN_u64 hs
  go_enter Try.func20, Try.ntmps20
  go_wp2_with fail
  refine (number_any a v l _ _ hw hs (by omega)).mono ?_
  rintro e w1 ⟨rfl, v1, hw1, hu1, hv1⟩
  have hc1 := hw1.get
  have hlt1 := hw1.lt
  have e1 : (l ++ encN (s.size : Int).toNat).length + s.size ≤ 140737488355328 := by rw [List.length_append]; omega
  have e2 : l ++ encN (s.size : Int).toNat = l ++ encN s.size := by rw [show (s.size : Int).toNat = s.size by omega]
  rw [e2] at hw1 e1
  clear e2
  generalize e2 : l ++ encN s.size = l1 at hw1 e1
  have HB := Lib.hid (byteCells_eq s)
  have HU := Lib.hid hu1
  have HV := Lib.hid hv1
  have HE := Lib.hid e2
  clear hu1 hv1 e2 hs he hl
  go_wp2_with (at_builtin; go_must (refine wpList_append_src_own _ rfl (.tmp 13) (.tmp 14) 27 9 rfl (a + 1) 5 i0 (.int .u8 0) 1 1 Try.underlying27 hi hz0 hz1 hz2 rfl v1 _ _ rfl hw1.own _ s.size (byteCells s) rfl (Src.ofString _ Try.underlying9 s) (by unfold maxLen; omega) (by omega) (by omega) ?c5))
  case c5 =>
  intro v' w2 hown hgrow hnew hshape
  obtain ⟨k0, e0⟩ := Wr_after2 hw1 hgrow
  rw [HB.out] at hown
  have HP := Lib.hid (Wr_put2n hw1 (Array.length_toList (xs := s.data)).symm hown hgrow hnew)
  clear hown hgrow hnew
  rcases hshape with rfl | ⟨g, cap, rfl⟩
  all_goals
    go_wp2
    go_end0
    refine ⟨rfl, ?_⟩
    rw [HE.out]
    exact WrPost.trans HU.out HV.out HP.out

/-- A number that may be below 0, as one that is not. -/
def zig (n : Int) : Int := if n < 0 then -2 * n - 1 else 2 * n
theorem wrapU (n : Int) : IntKind.u64.wrap n = n % 18446744073709551616 := by simp [IntKind.wrap, IntKind.bits, IntKind.signed]
theorem xorOnes (x : Nat) (h : x < 18446744073709551616) : x ^^^ 18446744073709551615 = 18446744073709551615 - x := by
  have h1 : (BitVec.ofNat 64 x ^^^ BitVec.allOnes 64).toNat = (~~~(BitVec.ofNat 64 x)).toNat := by rw [BitVec.xor_allOnes]
  rw [BitVec.toNat_xor, BitVec.toNat_not, BitVec.toNat_allOnes, BitVec.toNat_ofNat] at h1
  have h2 : x % 2 ^ 64 = x := Nat.mod_eq_of_lt (by omega)
  rw [h2] at h1
  have h3 : (2 ^ 64 - 1 : Nat) = 18446744073709551615 := by decide
  rw [h3] at h1
  exact h1
theorem zig_eq (n : Int) (h0 : -9223372036854775808 ≤ n) (h1 : n ≤ 9223372036854775807) :
    bits BinOp.xor IntKind.u64 (IntKind.u64.wrap (IntKind.u64.wrap n * 2)) (IntKind.u64.wrap (n / 9223372036854775808)) = zig n := by
  rw [wrapU, wrapU, wrapU, u64_xor _ _ (by omega) (by omega) (by omega) (by omega)]
  unfold zig
  split
  · rename_i h
    have e1 : n / 9223372036854775808 = -1 := by omega
    have e2 : (n % 18446744073709551616 * 2) % 18446744073709551616 = 2 * n + 18446744073709551616 := by omega
    rw [e1, e2]
    have e3 : ((-1 : Int) % 18446744073709551616).toNat = 18446744073709551615 := by decide
    rw [e3, xorOnes _ (by omega)]
    omega
  · rename_i h
    have e1 : n / 9223372036854775808 = 0 := by omega
    rw [e1]
    have e3 : ((0 : Int) % 18446744073709551616).toNat = 0 := by decide
    rw [e3, Nat.xor_zero]
    omega
theorem zig_u64 (n : Int) (h0 : -9223372036854775808 ≤ n) (h1 : n ≤ 9223372036854775807) : U64 (zig n) := by
  unfold zig U64; split <;> omega

set_option maxHeartbeats 400000 in
set_option maxRecDepth 100000 in
theorem wsigned_any (a : Nat) (v : Value) (n : Int) (l : List UInt8) (w : World) (hw : Wr w a v l) (hn : -9223372036854775808 ≤ n ∧ n ≤ 9223372036854775807) (hl : l.length + 16 ≤ 140737488355328) :
    Calls Try.prog 18 #[.pointer (some ⟨a, 0, none⟩), .int .i64 n] w fun e w' => e = .returned (.tuple #[]) ∧ WrPost a v (l ++ encN (zig n).toNat) w w' := by
  obtain ⟨hn0, hn1⟩ := hn
  go_enter Try.func18, Try.ntmps18
  go_wp2_with fail
  rw [zig_eq n hn0 hn1]
  refine (number_any a v l _ _ hw (zig_u64 n hn0 hn1) hl).mono ?_
  rintro e w1 ⟨rfl, hp⟩
  have HP := Lib.hid hp
  clear hp
  go_wp2
  go_end0
  exact ⟨rfl, HP.out⟩
end Go.Proofs.Ytbpeoclhabgcgaa
