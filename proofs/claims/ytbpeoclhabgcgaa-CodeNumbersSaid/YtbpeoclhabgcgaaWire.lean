import Derived.Test.YtbpeoclhabgcgaaMem
import Derived.Test.YtbpeoclhabgcgaaRows
namespace Go.Proofs.Ytbpeoclhabgcgaa
open Go.RowKit
set_option linter.unusedVariables false
set_option linter.unusedSimpArgs false

theorem Try.info5 : (Try.prog.info? 5).map (fun i => (i.zero, i.size, i.bytes)) = some (some (.int .u8 0), 1, 1) := by kernel_rfl

/-- A writer at block a, whose slice is v and whose bytes are l. -/
structure Wr (w : World) (a : Nat) (v : Value) (l : List UInt8) : Prop where
  cell : w.heap[a]? = some (.cells #[v] 87 (0, 0))
  own : w.ownsRow (a + 1) 5 1 v l.length (bytesV l)

theorem Wr.lt {w : World} {a : Nat} {v : Value} {l : List UInt8} (h : Wr w a v l) : a < w.heap.size := (Array.getElem?_eq_some_iff.1 h.cell).1
theorem Wr.ne {w : World} {a : Nat} {v : Value} {l : List UInt8} (h : Wr w a v l) : v.ownBlock ≠ some a := fun e => by
  have := (h.own.lt a e).1; omega
theorem Wr.get {w : World} {a : Nat} {v : Value} {l : List UInt8} (h : Wr w a v l) : w.cell? ⟨a, 0, none⟩ = some v := by
  rw [cell_of_row w a 0 _ 87 (0, 0) h.cell]; rfl
theorem Wr.free {w : World} {a : Nat} {v : Value} {l : List UInt8} (h : Wr w a v l) : w.frozen? ⟨a, 0, none⟩ = false := frozen_of_row w a 0 _ 87 h.cell

/-- What a writer's blocks are. -/
def WrS (a : Nat) (v : Value) (k : Nat) : Prop := k = a ∨ v.ownBlock = some k
/-- A writer keeps what nobody wrote into it. -/
theorem Wr.upd {S : Nat → Prop} {w w' : World} {a : Nat} {v : Value} {l : List UInt8} (h : Wr w a v l) (hu : Upd S w w') (hs : ∀ k, k < w.heap.size → WrS a v k → ¬ S k) : Wr w' a v l :=
  ⟨hu.heap_some h.cell (hs a h.lt (.inl rfl)), ownsRow_upd h.own hu (fun k hk => hs k (h.own.lt k hk).2 (.inr hk))⟩

/-- What a method of the writer leaves: these bytes; nothing else of what was there is written. -/
def WrPost (a : Nat) (v : Value) (l : List UInt8) (w w' : World) : Prop :=
  ∃ v', Wr w' a v' l ∧ Upd (WrS a v) w w' ∧ ∀ k, v'.ownBlock = some k → v.ownBlock = some k ∨ w.heap.size ≤ k

theorem WrPost.refl {a : Nat} {v : Value} {l : List UInt8} {w : World} (h : Wr w a v l) : WrPost a v l w w := ⟨v, h, Upd.refl _ _, fun _ hk => .inl hk⟩
theorem WrPost.trans {a : Nat} {v v1 : Value} {l : List UInt8} {w w1 w2 : World} (h : Upd (WrS a v) w w1) (hv : ∀ k, v1.ownBlock = some k → v.ownBlock = some k ∨ w.heap.size ≤ k) (h2 : WrPost a v1 l w1 w2) : WrPost a v l w w2 := by
  obtain ⟨v2, g1, g2, g3⟩ := h2
  refine ⟨v2, g1, h.trans g2 ?_, fun k hk => ?_⟩
  · rintro i hi (rfl | hk)
    · exact .inl rfl
    · rcases hv i hk with h' | h'
      · exact .inr h'
      · omega
  · rcases g3 k hk with h' | h'
    · exact hv k h'
    · exact .inr (Nat.le_trans h.size h')

/-- Behind an append to the writer's slice, and the store of the new one. -/
theorem Wr_put {w w1 : World} {a : Nat} {v : Value} {l m : List UInt8} {o : Obj} {g c : Nat} (h : Wr w a v l)
    (hown : w1.ownsRow (a + 1) 5 1 (.slice (some ⟨g, 0, none⟩) (l.length + m.length) c) (l.length + m.length) (bytesV l ++ bytesV m)) (hg : (w.alloc o).grownBy w1 v.ownBlock)
    (hnew : v.ownBlock = some g ∨ g = w.heap.size + 1) :
    Wr (w1.setCell ⟨a, 0, none⟩ (.slice (some ⟨g, 0, none⟩) (l.length + m.length) c)) a (.slice (some ⟨g, 0, none⟩) (l.length + m.length) c) (l ++ m) ∧
    Upd (WrS a v) w (w1.setCell ⟨a, 0, none⟩ (.slice (some ⟨g, 0, none⟩) (l.length + m.length) c)) ∧
    ∀ k, (Value.slice (some ⟨g, 0, none⟩) (l.length + m.length) c).ownBlock = some k → v.ownBlock = some k ∨ w.heap.size ≤ k := by
  have hu : Upd (fun k => v.ownBlock = some k) w w1 := ((Upd.refl _ w).alloc o).grown hg (fun _ h _ => h)
  have hne : g ≠ a := by
    have := (hown.lt g rfl).1; omega
  have hc : w1.heap[a]? = some (.cells #[v] 87 (0, 0)) := hu.heap_some h.cell (fun e => h.ne e)
  refine ⟨⟨?_, ?_⟩, (hu.mono (fun k _ hk => .inr hk)).setCell (fun _ => .inl rfl) _, fun k hk => ?_⟩
  · rw [heap_setCell_same w1 a 0 _ 87 _ hc]; rfl
  · have h1 := ownsRow_upd hown ((Upd.refl (fun k => k = a) w1).setCell (p := ⟨a, 0, none⟩) (fun _ => rfl) (.slice (some ⟨g, 0, none⟩) (l.length + m.length) c)) (fun k hk => by simp [Value.ownBlock] at hk; omega)
    rw [bytesV_append, List.length_append]
    exact h1
  · simp only [Value.ownBlock, Option.some.injEq] at hk
    subst hk
    rcases hnew with h | h
    · exact .inl h
    · exact .inr (by omega)

/-- A number's bytes. -/
def encN (n : Nat) : List UInt8 := if h : n < 128 then [UInt8.ofNat n] else UInt8.ofNat (n % 128 + 128) :: encN (n / 128)
termination_by n
decreasing_by omega

def U64 (n : Int) : Prop := 0 ≤ n ∧ n ≤ 18446744073709551615

/-- What holds at each jump back in Writer.Number. -/
def NumJ (a : Nat) (v : Value) (l : List UInt8) (n : Int) (w0 : World) (A : Act) (w : World) : Prop :=
  ∃ (n' : Int) (v' : Value) (l' : List UInt8) (u2 u3 u4 u5 u6 u7 u8 u9 u10 u11 u12 u13 u14 u15 u16 u17 u18 u19 u20 u21 u22 u23 u24 u25 u26 u27 u28 u29 u30 : Value), A = { tmps := #[.pointer (some ⟨a, 0, none⟩), .int .u64 n', u2, u3, u4, u5, u6, u7, u8, u9, u10, u11, u12, u13, u14, u15, u16, u17, u18, u19, u20, u21, u22, u23, u24, u25, u26, u27, u28, u29, u30], defers := [] } ∧
    U64 n' ∧ Wr w a v' l' ∧ l ++ encN n.toNat = l' ++ encN n'.toNat ∧ l'.length + (encN n'.toNat).length ≤ l.length + 10 ∧ Upd (WrS a v) w0 w ∧ (∀ k, v'.ownBlock = some k → v.ownBlock = some k ∨ w0.heap.size ≤ k)

/-- The writer's own cell in the world behind an append to its slice. -/
theorem Wr_after {w w1 : World} {a : Nat} {v : Value} {l : List UInt8} {o : Obj} (h : Wr w a v l) (hg : (w.alloc o).grownBy w1 v.ownBlock) :
    w1.cell? ⟨a, 0, none⟩ = some v ∧ w1.frozen? ⟨a, 0, none⟩ = false := by
  have hu : Upd (fun k => v.ownBlock = some k) w w1 := ((Upd.refl _ w).alloc o).grown hg (fun _ h _ => h)
  exact ⟨(hu.cell (p := ⟨a, 0, none⟩) h.lt (fun e => h.ne e)).trans h.get, (hu.frozen (p := ⟨a, 0, none⟩) h.lt (fun e => h.ne e)).trans h.free⟩
theorem byteV_ofNat (n : Nat) (h : n < 256) : byteV (UInt8.ofNat n) = .int .u8 n := by
  unfold byteV
  have : (UInt8.ofNat n).toNat = n := by simp [UInt8.toNat_ofNat']; omega
  rw [this]
theorem cell_new (w : World) (x : Value) (e : TypeId) : ∀ j u, [x][j]? = some u → (w.alloc (.cells #[x] e)).cell? ((⟨w.heap.size, 0, none⟩ : Addr).add j) = some u := by
  intro j u hj
  match j, hj with
  | 0, hj => simp at hj; subst hj; simp [Addr.add]

theorem encN_small {n : Nat} (h : n < 128) : encN n = [UInt8.ofNat n] := by rw [encN, dif_pos h]
theorem encN_big {n : Nat} (h : ¬ n < 128) : encN n = UInt8.ofNat (n % 128 + 128) :: encN (n / 128) := by rw [encN, dif_neg h]
theorem encN_le : ∀ (k n : Nat), n < 128 ^ (k + 1) → (encN n).length ≤ k + 1
  | 0, n, h => by rw [encN_small (by omega)]; simp
  | k + 1, n, h => by
    by_cases hn : n < 128
    · rw [encN_small hn]; simp
    · rw [encN_big hn]
      have := encN_le k (n / 128) (by rw [Nat.div_lt_iff_lt_mul (by omega)]; rw [Nat.pow_succ] at h; omega)
      simp; omega
theorem encN_pos (n : Nat) : 1 ≤ (encN n).length := by
  rw [encN]; split <;> simp
theorem encN_u64 {n : Int} (h : U64 n) : (encN n.toNat).length ≤ 10 := encN_le 9 _ (by have := h.1; have := h.2; omega)

theorem oneInt (k : IntKind) (n : Int) : ∀ u ∈ [Value.int k n], u.oneCell' = true := by
  intro u hu; rw [List.mem_singleton] at hu; subst hu; rfl
theorem or128 : ∀ m : Nat, m < 256 → m ||| 128 = m % 128 + 128 := by decide +kernel
theorem low7 (n : Int) (h : 0 ≤ n) : byteV (UInt8.ofNat (n.toNat % 128 + 128)) = .int .u8 (bits BinOp.or IntKind.u8 (n % 256) 128) := by
  rw [byteV_ofNat _ (by omega), u8_or _ _ (by omega) (by omega) (by omega) (by omega)]
  have : (128 : Int).toNat = 128 := rfl
  rw [this, or128 _ (by omega)]
  congr 1; omega

set_option maxHeartbeats 400000 in
set_option maxRecDepth 100000 in
theorem number_any (a : Nat) (v : Value) (l : List UInt8) (n : Int) (w : World) (hw : Wr w a v l) (hn : U64 n) (hl : l.length + 16 ≤ 140737488355328) :
    Calls Try.prog 14 #[.pointer (some ⟨a, 0, none⟩), .int .u64 n] w fun e w' => e = .returned (.tuple #[]) ∧ WrPost a v (l ++ encN n.toNat) w w' := by
  obtain ⟨i0, hi, hz0, hz1, hz2⟩ := info_parts Try.info5
  go_enter Try.func14, Try.ntmps14
  refine wp_scope_label 0 (NumJ a v l n w) (fun A _ => (intOf (A.tmps.getD 1 undef)).toNat) ?_ ?_
  · exact ⟨n, v, l, _, _, _, _, _, _, _, _, _, _, _, _, _, _, _, _, _, _, _, _, _, _, _, _, _, _, _, _, _, rfl, hn, hw, rfl, by have := encN_u64 hn; omega, Upd.refl _ _, fun _ h => .inl h⟩
  intro A wr HJ
  obtain ⟨n', v', l', u2, u3, u4, u5, u6, u7, u8, u9, u10, u11, u12, u13, u14, u15, u16, u17, u18, u19, u20, u21, u22, u23, u24, u25, u26, u27, u28, u29, u30, rfl, hn', hw', he, hl', hu, hv'⟩ := HJ
  have HE := Lib.hid he
  have HU := Lib.hid hu
  have HV := Lib.hid hv'
  have hc := hw'.get
  have hlt := hw'.lt
  have hp := encN_pos n'.toNat
  have HL := Lib.hid hl'
  have hll : l'.length + 1 ≤ 140737488355328 := by omega
  clear he hu hv' hl hp hl'
  obtain ⟨hn0, hn1⟩ := hn'
  by_cases h : n' < 128
  · have hb : byteV (UInt8.ofNat n'.toNat) = .int .u8 n' := by rw [byteV_ofNat _ (by omega)]; congr 1; omega
    have HB := Lib.hid hb
    clear hb
    go_wp2_with (at_builtin; refine wpList_append_lies _ rfl (.tmp 10) (.tmp 13) 27 rfl (a + 1) 5 i0 (.int .u8 0) 1 1 Try.underlying27 hi hz0 hz1 hz2 rfl (by decide) v' l'.length (bytesV l') rfl (hw'.own.alloc _) ⟨wr.heap.size, 0, none⟩ 1 1 [.int .u8 n'] rfl rfl (cell_new _ _ _) (oneInt _ _) (by decide) (by unfold maxLen; omega) (by omega) (by simp; omega) (wr.heap.size + 1) (by simp) ?c5)
    case c5 =>
    intro g cap w1 hown hgrow hg hglt
    obtain ⟨k0, e0⟩ := Wr_after hw' hgrow
    rw [← HB.out] at hown
    have HP := Lib.hid (Wr_put (m := [UInt8.ofNat n'.toNat]) hw' hown hgrow hg)
    clear hg hown hgrow
    go_wp2
    have e1 : encN n'.toNat = [UInt8.ofNat n'.toNat] := encN_small (by omega)
    refine bodyPost_ret (results_none rfl _ _ _) rfl ⟨rfl, WrPost.trans HU.out HV.out ?_⟩
    rw [HE.out, e1]; exact ⟨_, HP.out⟩
  · have HB := Lib.hid (low7 n' hn0)
    go_wp2_with (at_builtin; go_must (refine wpList_append_lies _ rfl (.tmp 21) (.tmp 25) 27 rfl (a + 1) 5 i0 (.int .u8 0) 1 1 Try.underlying27 hi hz0 hz1 hz2 rfl (by decide) v' l'.length (bytesV l') rfl (hw'.own.alloc _) ⟨wr.heap.size, 0, none⟩ 1 1 [.int .u8 (bits BinOp.or IntKind.u8 (n' % 256) 128)] rfl rfl (cell_new _ _ _) (oneInt _ _) (by decide) (by unfold maxLen; omega) (by omega) (by simp; omega) (wr.heap.size + 1) (by simp) ?c5))
    case c5 =>
    intro g cap w1 hown hgrow hg hglt
    obtain ⟨k0, e0⟩ := Wr_after hw' hgrow
    rw [← HB.out] at hown
    have HP := Lib.hid (Wr_put (m := [UInt8.ofNat (n'.toNat % 128 + 128)]) hw' hown hgrow hg)
    clear hg hown hgrow
    go_wp2
    apply wp_goto
    have e1 : encN n'.toNat = UInt8.ofNat (n'.toNat % 128 + 128) :: encN (n' / 128).toNat := by
      rw [encN_big (by omega), show (n' / 128).toNat = n'.toNat / 128 by omega]
    have hll2 := HL.out
    rw [e1] at hll2
    refine ⟨rfl, ⟨n' / 128, _, _, _, _, _, _, _, _, _, _, _, _, _, _, _, _, _, _, _, _, _, _, _, _, _, _, _, _, _, _, _, rfl, ⟨by omega, by omega⟩, HP.out.1, ?_, ?_, HU.out.trans HP.out.2.1 ?_, ?_⟩, ?_⟩
    · rw [HE.out, e1]; simp
    · simp at hll2 ⊢; omega
    · rintro k hk (rfl | h')
      · exact .inl rfl
      · rcases HV.out k h' with h | h
        · exact .inr h
        · omega
    · intro k hk
      rcases HP.out.2.2 k hk with h' | h'
      · exact HV.out k h'
      · have := HU.out.size; exact .inr (by omega)
    · simp [intOf]; omega
end Go.Proofs.Ytbpeoclhabgcgaa
