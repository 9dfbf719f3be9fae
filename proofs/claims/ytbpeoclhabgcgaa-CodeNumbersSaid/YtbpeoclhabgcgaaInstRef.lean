import Derived.Test.YtbpeoclhabgcgaaInstPre
import Derived.Test.YtbpeoclhabgcgaaOneR
namespace Go.Proofs.Ytbpeoclhabgcgaa
open Go.RowKit
set_option linter.unusedVariables false
set_option linter.unusedSimpArgs false
/-- What a decoder answers. -/
def DecP (l : List UInt8) (w : World) (e : Ending) (w' : World) : Prop :=
  Upd (fun _ => False) w w' ∧ ∃ V L er at_, Out l L er at_ ∧ IL w' V L ∧ (∀ i ∈ L, i.x.natAbs ≤ 9223372036854775808 ∧ i.y.natAbs ≤ 9223372036854775808) ∧ e = .returned (.tuple #[V, .int .i64 er, .int .i64 at_])
theorem LW.lt {w : World} {base : Nat} {e : TypeId} {lv : Value} {L : List IV} (h : LW w base e lv L) {k : Nat} (hk : lv.ownBlock = some k) : base ≤ k ∧ k < w.heap.size := by
  obtain ⟨vs, _, h, _⟩ := h; exact own_ge h hk
/-- The memory ahead of a push: the instruction was read into new memory and laid into two new blocks. -/
theorem dec_mem {w wr w1 : World} {e : TypeId} {lv vt : Value} {acc : List IV} (ho : LW wr w.heap.size e lv acc) (hu : Upd (fun _ => False) w wr) (hu1 : Upd (fun _ => False) wr w1) (i : IV)
    (ho1 : w1.ownsRow wr.heap.size 3 1 vt i.tos.length (intsV i.tos)) :
    LW ((w1.alloc (.cells (i.cells vt).toArray e)).alloc (.cells (i.cells vt).toArray e)) w.heap.size e lv acc ∧
    Row ((w1.alloc (.cells (i.cells vt).toArray e)).alloc (.cells (i.cells vt).toArray e)) (w1.heap.size + 1) e (i.cells vt) ∧
    Ints ((w1.alloc (.cells (i.cells vt).toArray e)).alloc (.cells (i.cells vt).toArray e)) vt i.tos ∧
    (∀ k, vt.ownBlock = some k → w.heap.size ≤ k ∧ k < ((w1.alloc (.cells (i.cells vt).toArray e)).alloc (.cells (i.cells vt).toArray e)).heap.size ∧ lv.ownBlock ≠ some k) ∧
    Upd (fun _ => False) w ((w1.alloc (.cells (i.cells vt).toArray e)).alloc (.cells (i.cells vt).toArray e)) := by
  have hu2 : Upd (fun _ => False) w1 ((w1.alloc (.cells (i.cells vt).toArray e)).alloc (.cells (i.cells vt).toArray e)) := ((Upd.refl _ w1).alloc _).alloc _
  refine ⟨(ho.upd (hu1.trans' hu2) (fun _ _ h => h) (fun _ _ _ _ h => h)), ?_, (Ints_own ho1).upd hu2 (fun _ _ h => h), fun k hk => ?_, hu.trans' (hu1.trans' hu2)⟩
  · have := heap_alloc_new (w1.alloc (.cells (i.cells vt).toArray e)) (.cells (i.cells vt).toArray e)
    rw [World.size_alloc] at this
    exact this
  · have h1 := own_ge ho1 hk
    have h2 := hu.size
    have h3 := hu2.size
    exact ⟨by omega, by omega, fun e => by have := (ho.lt e).2; omega⟩
theorem IL.empty (w : World) : IL w (.slice none 0 0) [] := ⟨Option.none, 0, rfl, by simp, by unfold maxLen; omega, .inl rfl⟩
set_option maxHeartbeats 8000000 in
set_option maxRecDepth 100000 in
/-- hawserref13.Decode. -/
theorem rdec_any (v : Value) (l : List UInt8) (w : World) (hb : Bytes w v l) (h63 : l.length ≤ 9223372036854775807) :
    Calls Try.prog 44 #[v] w (DecP l w) := by
  have HB := Lib.hid hb
  obtain ⟨ao, cap, rfl, _⟩ := hb
  by_cases hl : l.length ≤ 2048
  · go_enter Try.func44, Try.ntmps44
    have k0 : decide ((2048 : Int) < (l.length : Int)) = false := by simp; omega
    go_wp2_with fail
    go_loopw [5, 6] (fun v i wr => ∃ (p n : Nat) (acc : List IV), i = .int .i64 p ∧ runN l n = some (acc, p) ∧ LW wr w.heap.size 99 v acc ∧ Upd (fun _ => False) w wr) (fun _ i _ => l.length - (intOf i).toNat)
    case atStart => exact ⟨0, 0, [], rfl, rfl, LW.nil _ _ _, Upd.refl _ w⟩
    case round =>
      obtain ⟨p, n, acc, rfl, hn, ho, hu⟩ := hrel
      obtain ⟨f1, f2, f3⟩ := runN_facts hn
      have HO := Lib.hid ho
      have HU := Lib.hid hu
      have HN := Lib.hid hn
      have HF := Lib.hid f3
      clear ho hu hn f3
      by_cases hlt : p < l.length
      · have k1 : (p : Int) < (l.length : Int) := by omega
        have HM := Lib.hid (fun h0 => one_moves (l := l) (p := p) hlt h0)
        have HS := Lib.hid (fun h0 => runN_step HN.out hlt h0)
        go_wp2_with fail
        refine (rone_any _ l p _ (Bytes_upd HB.out HU.out (fun _ _ h => h)) hl hlt).mono ?_
        rintro e w1 ⟨hu1, ⟨h0, vt, rfl, ho1⟩ | ⟨h0, rfl⟩⟩
        · have HO1 := Lib.hid ho1
          have HU1 := Lib.hid hu1
          have HI1 := Lib.hid (Ints_own ho1)
          have HM' := Lib.hid (HM.out h0)
          have HS' := Lib.hid (HS.out h0)
          obtain ⟨av, nv, cv, rfl⟩ := HI1.out.slice
          obtain ⟨⟨a0, op, A, B, x, y, tx, tos⟩, hI⟩ : ∃ I, I = (oneR l p).2.2 := ⟨_, rfl⟩
          obtain ⟨p', hp'⟩ : ∃ p', p' = (oneR l p).2.1.p := ⟨_, rfl⟩
          rw [← hI, ← hp'] at HS'
          rw [← hp'] at HM'
          rw [← hI] at HI1 HO1
          rw [← hI, ← hp']
          clear HM HS h0 ho1 hu1 hI hp' hlt
          have HW := Lib.hid (dec_mem HO.out HU.out HU1.out ⟨a0, op, A, B, x, y, tx, tos⟩ HO1.out)
          have k9 : acc.length ≤ 4096 := by omega
          have k8 : p' ≤ l.length := HM'.out.2
          simp only [IV.cells] at HW ⊢
          go_wp2_with (at_builtin; go_loud (refine wpList_push (w0 := w) rfl (.tmp 28) (.tmp 30) 72 72 99 rfl Try.underlying72 Try.underlying72 info99 rfl HW.out.1 (k := w1.heap.size + 1) (e' := 99) (i := ⟨a0, op, A, B, x, y, tx, tos⟩) (v := .slice av nv cv) HW.out.2.1 rfl HW.out.2.2.1 HW.out.2.2.2.1 k9 HW.out.2.2.2.2 ?c1))
          case c1 =>
          intro v' w' q1 q2
          have HQ1 := Lib.hid q1
          have HQ2 := Lib.hid q2
          clear q1 q2
          go_wp2_with fail
          go_roundw
          case rel => exact ⟨p', n + 1, _, rfl, HS'.out, HQ1.out, HQ2.out⟩
          case measure => simp [intOf]; have := HM'.out; omega
        · obtain ⟨E, hE⟩ : ∃ E, E = (oneR l p).1 := ⟨_, rfl⟩
          rw [show ivZ.cells (.slice none 0 0) = _ from zero_cells, ← hE]
          rw [← hE] at h0
          have HE := Lib.hid hE
          clear hE
          go_wp2_with fail
          go_ret3
          exact ⟨HU.out.trans' (hu1.alloc _), _, [], _, _, .inr ⟨hl, n, acc, p, HN.out, .inr ⟨hlt, by rw [← HE.out]; exact h0, rfl, HE.out, rfl⟩⟩, IL.empty _, by simp, rfl⟩
      · have hp : p = l.length := by omega
        go_wp2_with fail
        go_ret3
        exact ⟨HU.out, _, acc, _, _, .inr ⟨hl, n, acc, p, HN.out, .inl ⟨hp, rfl, rfl, rfl⟩⟩, HO.out.il, HF.out, rfl⟩
  · go_enter Try.func44, Try.ntmps44
    have k0 : decide ((2048 : Int) < (l.length : Int)) = true := by simp; omega
    go_wp2_with fail
    go_ret3
    exact ⟨Upd.refl _ w, _, [], _, _, .inl ⟨by omega, rfl, rfl, rfl⟩, IL.empty _, by simp, rfl⟩
end Go.Proofs.Ytbpeoclhabgcgaa
