import Derived.Test.YtbpeoclhabgcgaaTrip
import Derived.Test.YtbpeoclhabgcgaaOpen
namespace Go.Proofs.Ytbpeoclhabgcgaa
open Go.RowKit
set_option linter.unusedVariables false
set_option linter.unusedSimpArgs false

/-- A piece: what a Part holds. -/
structure PartV where
  kind : Int
  most : Int
  n : Int
  text : ByteArray
def PartV.ok (x : PartV) : Prop := -9223372036854775808 ≤ x.kind ∧ x.kind ≤ 9223372036854775807 ∧ -9223372036854775808 ≤ x.most ∧ x.most ≤ 9223372036854775807 ∧ U64 x.n ∧ x.text.size ≤ maxLen
/-- The cells of a piece at a place. -/
structure PartAt (w : World) (b o : Nat) (x : PartV) : Prop where
  ok : x.ok
  c0 : w.cell? ⟨b, o, none⟩ = some (.int .i64 x.kind)
  c1 : w.cell? ⟨b, o + 1, none⟩ = some (.int .i64 x.most)
  c2 : w.cell? ⟨b, o + 2, none⟩ = some (.int .u64 x.n)
  c3 : w.cell? ⟨b, o + 3, none⟩ = some (.string x.text)
/-- A slice of pieces that can be read. -/
def Parts (w : World) (v : Value) (L : List PartV) : Prop :=
  ∃ ao cap, v = .slice ao L.length cap ∧ L.length ≤ maxLen ∧ (L = [] ∨ ∃ b off, ao = some ⟨b, off, none⟩ ∧ ∀ i (h : i < L.length), PartAt w b (off + i * 4) L[i])
theorem PartAt.upd {S : Nat → Prop} {w w' : World} {b o : Nat} {x : PartV} (h : PartAt w b o x) (hu : Upd S w w') (hn : ¬ S b) : PartAt w' b o x :=
  ⟨h.ok, hu.cell_some h.c0 hn, hu.cell_some h.c1 hn, hu.cell_some h.c2 hn, hu.cell_some h.c3 hn⟩
theorem Parts.upd {w w' : World} {v : Value} {L : List PartV} (h : Parts w v L) (hu : Upd (fun _ => False) w w') : Parts w' v L := by
  obtain ⟨ao, cap, rfl, hm, h⟩ := h
  refine ⟨ao, cap, rfl, hm, ?_⟩
  rcases h with h | ⟨b, off, rfl, hc⟩
  · exact .inl h
  · exact .inr ⟨b, off, rfl, fun i hi => (hc i hi).upd hu (fun h => h)⟩

section
open Go.ChangeShapes Go.WideShapes Go.Deep
variable {H : Type} {enc : TypeId × Value → H} {w : World} {base : Nat} {spare : Nat → Bool} {held : Bool}
theorem parts_open {fuel : Nat} {ao : Option Addr} {len cap : Nat} {x : DataW H × List MemPlace} (h : DataW.trod enc Try.prog w base spare held fuel 31 [.slice ao len cap] = some x) :
    ∃ L, L.length = len ∧ Parts w (.slice ao len cap) L := by
  obtain ⟨hl, hm, hr⟩ := open_rows Try.underlying31 Try.underlying33 (by kernel_rfl) (by kernel_rfl) h
  have key : ∀ i, i < len → ∃ (x : PartV), ∃ b off, ao = some ⟨b, off, none⟩ ∧ PartAt w b (off + i * 4) x := by
    intro i hi
    obtain ⟨a, ha, hf⟩ := hr i hi
    obtain ⟨v0, y0, n0, hc0, ht0⟩ := hf 0 _ rfl
    obtain ⟨v1, y1, n1, hc1, ht1⟩ := hf 1 _ rfl
    obtain ⟨v2, y2, n2, hc2, ht2⟩ := hf 2 _ rfl
    obtain ⟨v3, y3, n3, hc3, ht3⟩ := hf 3 _ rfl
    obtain ⟨x0, e0, _, w0⟩ := DataW.trod_int Try.underlying3 ht0
    obtain ⟨x1, e1, _, w1⟩ := DataW.trod_int Try.underlying3 ht1
    obtain ⟨x2, e2, _, w2⟩ := DataW.trod_int Try.underlying22 ht2
    obtain ⟨x3, e3, _, w3⟩ := DataW.trod_string Try.underlying9 ht3
    simp only [List.cons.injEq, and_true] at e0 e1 e2 e3
    subst e0 e1 e2 e3
    obtain ⟨b, off, sp⟩ := a
    have g0 := wf_i64 w0
    have g1 := wf_i64 w1
    have g2 := wf_u64 w2
    have hsz : (4 : Nat) = 4 := rfl
    have add1 : ∀ j, 0 < j → (⟨b, off, sp⟩ : Addr).add j = ⟨b, off + j, none⟩ := fun j hj => by unfold Addr.add; rw [if_neg (by omega)]
    have hsp : sp = none ∨ 0 < i := by
      rcases Nat.eq_zero_or_pos i with rfl | hi
      · left
        simp only [Nat.zero_mul, Nat.add_zero] at hc0
        have : (⟨b, off, sp⟩ : Addr).add 0 = ⟨b, off, sp⟩ := rfl
        rw [this] at hc0
        exact World.cell?_spot hc0
      · exact .inr hi
    have hsp0 : sp = none := by
      obtain ⟨a', ha', hf'⟩ := hr 0 (by omega)
      rw [ha] at ha'
      obtain rfl := Option.some.inj ha'
      obtain ⟨v0', y0', n0', hc0', _⟩ := hf' 0 _ rfl
      simp only [Nat.zero_mul, Nat.add_zero] at hc0'
      have : (⟨b, off, sp⟩ : Addr).add 0 = ⟨b, off, sp⟩ := rfl
      rw [this] at hc0'
      exact World.cell?_spot hc0'
    subst hsp0
    have add0 : ∀ j, (⟨b, off, none⟩ : Addr).add j = ⟨b, off + j, none⟩ := fun j => by unfold Addr.add; split <;> simp_all
    rw [add0] at hc0 hc1 hc2 hc3
    refine ⟨⟨x0, x1, x2, x3⟩, b, off, ha, ⟨⟨g0.1, g0.2, g1.1, g1.2, g2, w3⟩, ?_, ?_, ?_, ?_⟩⟩
    · simpa using hc0
    · simpa [Nat.add_assoc] using hc1
    · simpa [Nat.add_assoc] using hc2
    · simpa [Nat.add_assoc] using hc3
  by_cases h0 : len = 0
  · subst h0
    exact ⟨[], rfl, ao, cap, rfl, by simp [maxLen], .inl rfl⟩
  · obtain ⟨x0, b, off, ha, _⟩ := key 0 (by omega)
    have key2 : ∀ i : Fin len, ∃ x, PartAt w b (off + i.1 * 4) x := by
      intro i
      obtain ⟨x, b', off', ha', hp⟩ := key i.1 i.2
      rw [ha] at ha'
      simp only [Option.some.injEq, Addr.mk.injEq, and_true] at ha'
      obtain ⟨rfl, rfl⟩ := ha'
      exact ⟨x, hp⟩
    refine ⟨List.ofFn fun i => Classical.choose (key2 i), by simp, ao, cap, by simp, by simp; omega, .inr ⟨b, off, ha, fun i hi => ?_⟩⟩
    simp only [List.getElem_ofFn]
    exact Classical.choose_spec (key2 ⟨i, by simpa using hi⟩)
theorem bytes_open {fuel : Nat} {ao : Option Addr} {len cap : Nat} {x : DataW H × List MemPlace} (h : DataW.trod enc Try.prog w base spare held fuel 27 [.slice ao len cap] = some x) :
    ∃ l, l.length = len ∧ Bytes w (.slice ao len cap) l := by
  rcases open_ints Try.underlying27 Try.underlying5 (by kernel_rfl) h with ⟨hcs, _⟩ | ⟨a, l, c, zs, hcs, _, hl, hm, hz, _, hcell, hwz⟩
  · simp only [List.cons.injEq, Value.slice.injEq, and_true] at hcs
    obtain ⟨rfl, rfl, rfl⟩ := hcs
    exact ⟨[], rfl, none, 0, rfl, by simp, by simp [maxLen], .inl rfl⟩
  · simp only [List.cons.injEq, Value.slice.injEq, and_true] at hcs
    obtain ⟨rfl, rfl, rfl⟩ := hcs
    have hzl : len ≤ zs.length := by rw [hz]; split <;> omega
    refine ⟨(zs.take len).map (fun n => UInt8.ofNat n.toNat), by simp; omega, some a, cap, by simp; omega, by simp; omega, hm, ?_⟩
    by_cases h0 : len = 0
    · subst h0; left; simp
    · right
      have hc0 := hcell 0 (by omega)
      obtain ⟨b, off, sp⟩ := a
      have : (⟨b, off, sp⟩ : Addr).add 0 = ⟨b, off, sp⟩ := rfl
      rw [this] at hc0
      obtain rfl := World.cell?_spot hc0
      refine ⟨b, off, rfl, fun i hi => ?_⟩
      have hil : i < len := by simp at hi; omega
      have hc := hcell i (by omega)
      have add0 : (⟨b, off, none⟩ : Addr).add i = ⟨b, off + i, none⟩ := by unfold Addr.add; split <;> simp_all
      rw [add0] at hc
      rw [hc]
      congr 1
      have hget : zs.getD i 0 = zs[i]'(by omega) := by simp [List.getD, List.getElem?_eq_getElem (show i < zs.length by omega)]
      have hw := hwz (zs[i]'(by omega)) (List.getElem_mem _)
      simp [Lit.wf] at hw
      have e1 : IntKind.u8.min = 0 := by decide
      have e2 : IntKind.u8.max = 255 := by decide
      rw [e1, e2] at hw
      rw [hget]
      simp only [List.getElem_map, List.getElem_take]
      rw [byteV_ofNat _ (by omega)]
      congr 1; omega
end
end Go.Proofs.Ytbpeoclhabgcgaa
