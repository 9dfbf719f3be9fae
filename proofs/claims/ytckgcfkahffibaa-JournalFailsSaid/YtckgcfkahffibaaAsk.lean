import Derived.Test.YtckgcfkahffibaaFst
import Derived.Test.YtckgcfkahffibaaOpen
namespace Go.Proofs.Ytckgcfkahffibaa
open Go.RowKit
set_option linter.unusedVariables false
set_option linter.unusedSimpArgs false
def I64 (n : Int) : Prop := -9223372036854775808 ≤ n ∧ n ≤ 9223372036854775807
/-- A slice of structs of sz cells whose cell x is an int and whose cell y is a byte. -/
def IB (w : World) (sz x y : Nat) (v : Value) (L : List (Int × UInt8)) : Prop :=
  ∃ ao cap, v = .slice ao L.length cap ∧ (L = [] ∨ ∃ b off, ao = some ⟨b, off, none⟩ ∧ ∀ i (h : i < L.length), w.cell? ⟨b, off + i * sz + x, none⟩ = some (.int .i64 (L[i]).1) ∧ w.cell? ⟨b, off + i * sz + y, none⟩ = some (byteV (L[i]).2) ∧ I64 (L[i]).1)
theorem IB.upd {w w' : World} {sz x y : Nat} {v : Value} {L : List (Int × UInt8)} (h : IB w sz x y v L) (hu : Upd (fun _ => False) w w') : IB w' sz x y v L := by
  obtain ⟨ao, cap, rfl, h⟩ := h
  refine ⟨ao, cap, rfl, ?_⟩
  rcases h with h | ⟨b, off, rfl, hc⟩
  · exact .inl h
  · exact .inr ⟨b, off, rfl, fun i hi => ⟨hu.cell_some (hc i hi).1 (fun h => h), hu.cell_some (hc i hi).2.1 (fun h => h), (hc i hi).2.2⟩⟩
section
open Go.ChangeShapes Go.WideShapes Go.Deep
variable {H : Type} {enc : TypeId × Value → H} {w : World} {base : Nat} {spare : Nat → Bool} {held : Bool}
theorem ib_open {t e : TypeId} {fs : Array Field} {x y : Nat} (hx : ∃ f, fs[x]? = some f ∧ f.type = 3) (hy : ∃ f, fs[y]? = some f ∧ f.type = 5)
    (ht : Try.prog.underlying t = some (.slice e)) (he : Try.prog.underlying e = some (.struct fs)) (hone : oneCellFields Try.prog fs = true) (hC : Try.prog.cellsOf e = fs.size)
    {fuel : Nat} {ao : Option Addr} {len cap : Nat} {d : DataW H × List MemPlace} (h : DataW.trod enc Try.prog w base spare held fuel t [.slice ao len cap] = some d) :
    ∃ L, L.length = len ∧ IB w fs.size x y (.slice ao len cap) L := by
  obtain ⟨fx, hfx, tx⟩ := hx
  obtain ⟨fy, hfy, ty⟩ := hy
  obtain ⟨hl, hm, hr⟩ := open_rows ht he hone hC h
  have key : ∀ i, i < len → ∃ (p : Int × UInt8), ∃ b off, ao = some ⟨b, off, none⟩ ∧ w.cell? ⟨b, off + i * fs.size + x, none⟩ = some (.int .i64 p.1) ∧ w.cell? ⟨b, off + i * fs.size + y, none⟩ = some (byteV p.2) ∧ I64 p.1 := by
    intro i hi
    obtain ⟨a, ha, hf⟩ := hr i hi
    obtain ⟨v0, y0, n0, hc0, ht0⟩ := hf x fx hfx
    obtain ⟨v1, y1, n1, hc1, ht1⟩ := hf y fy hfy
    rw [tx] at ht0
    rw [ty] at ht1
    obtain ⟨x0, e0, _, w0⟩ := DataW.trod_int Try.underlying3 ht0
    obtain ⟨x1, e1, _, w1⟩ := DataW.trod_int Try.underlying5 ht1
    simp only [List.cons.injEq, and_true] at e0 e1
    subst e0 e1
    obtain ⟨b, off, sp⟩ := a
    have g0 := wf_i64 w0
    have hsp0 : sp = none := by
      obtain ⟨a', ha', hf'⟩ := hr 0 (by omega)
      rw [ha] at ha'
      obtain rfl := Option.some.inj ha'
      by_cases hx0 : x = 0
      · obtain ⟨v0', y0', n0', hc0', _⟩ := hf' x fx hfx
        rw [hx0] at hc0'
        simp only [Nat.zero_mul, Nat.add_zero] at hc0'
        have : (⟨b, off, sp⟩ : Addr).add 0 = ⟨b, off, sp⟩ := rfl
        rw [this] at hc0'
        exact World.cell?_spot hc0'
      · have h0 : 0 < fs.size := by have := (Array.getElem?_eq_some_iff.1 hfx).1; omega
        obtain ⟨v0', y0', n0', hc0', _⟩ := hf' 0 fs[0] (Array.getElem?_eq_getElem h0)
        simp only [Nat.zero_mul, Nat.add_zero] at hc0'
        have : (⟨b, off, sp⟩ : Addr).add 0 = ⟨b, off, sp⟩ := rfl
        rw [this] at hc0'
        exact World.cell?_spot hc0'
    subst hsp0
    rw [Addr.add_mid] at hc0 hc1
    have hw := w1
    simp [Lit.wf] at hw
    have e1 : IntKind.u8.min = 0 := by decide
    have e2 : IntKind.u8.max = 255 := by decide
    rw [e1, e2] at hw
    refine ⟨(x0, UInt8.ofNat x1.toNat), b, off, ha, by rw [Nat.add_assoc]; exact hc0, ?_, g0⟩
    rw [Nat.add_assoc, hc1]
    congr 1
    simp only [byteV]
    congr 1
    rw [UInt8.toNat_ofNat']; omega
  by_cases h0 : len = 0
  · subst h0
    exact ⟨[], rfl, ao, cap, rfl, .inl rfl⟩
  · obtain ⟨x0, b, off, ha, _⟩ := key 0 (by omega)
    have key2 : ∀ i : Fin len, ∃ p : Int × UInt8, w.cell? ⟨b, off + i.1 * fs.size + x, none⟩ = some (.int .i64 p.1) ∧ w.cell? ⟨b, off + i.1 * fs.size + y, none⟩ = some (byteV p.2) ∧ I64 p.1 := by
      intro i
      obtain ⟨p, b', off', ha', hp⟩ := key i.1 i.2
      rw [ha] at ha'
      simp only [Option.some.injEq, Addr.mk.injEq, and_true] at ha'
      obtain ⟨rfl, rfl⟩ := ha'
      exact ⟨p, hp⟩
    refine ⟨List.ofFn fun i => Classical.choose (key2 i), by simp, ao, cap, by simp, .inr ⟨b, off, ha, fun i hi => ?_⟩⟩
    simp only [List.getElem_ofFn]
    exact Classical.choose_spec (key2 ⟨i, by simpa using hi⟩)
end
/-- A disk on which just these were written. -/
def plain (l : List (Nat × List UInt8)) : DS := ⟨laid DS.new.bl l, DS.new.ml, l, -1, false⟩
theorem laid_append (f : Nat → List UInt8) (l : List (Nat × List UInt8)) (x : Nat × List UInt8) : laid f (l ++ [x]) = fun j => if j = x.1 then x.2 else laid f l j := by simp [laid, List.foldl_append]
theorem plain_wr (l : List (Nat × List UInt8)) (i : Nat) (hi : i < 255) (b : List UInt8) : (plain l).wr i b = (0, plain (l ++ [(i, b)])) := by
  have hm : (plain l).may i = 0 := may_ok hi rfl
  unfold DS.wr
  rw [if_neg (by omega)]
  simp [plain, DS.put, laid_append]
theorem plain_rd (l : List (Nat × List UInt8)) (i : Nat) (hi : i < 255) : (plain l).rd i = laid DS.new.bl l i ∧ (plain l).may i = 0 := by
  have hm : (plain l).may i = 0 := may_ok hi rfl
  exact ⟨by unfold DS.rd; rw [if_pos hm]; rfl, hm⟩
theorem of_rd (f : Nat → List UInt8) (i : Nat) (hi : i < 255) : (DS.of f).rd i = f i ∧ (DS.of f).may i = 0 := by
  have hm : (DS.of f).may i = 0 := may_ok hi rfl
  exact ⟨by unfold DS.rd; rw [if_pos hm]; rfl, hm⟩
theorem plain_cut (l : List (Nat × List UInt8)) (n : Nat) : (plain l).cut n = DS.of (laid DS.new.bl (l.take n)) := rfl
theorem laid_len {f : Nat → List UInt8} {l : List (Nat × List UInt8)} (hf : ∀ i, (f i).length = 64) (hl : ∀ x ∈ l, x.2.length = 64) : ∀ i, (laid f l i).length = 64 := by
  induction l generalizing f with
  | nil => exact hf
  | cons x l ih =>
    intro i
    show (laid (fun j => if j = x.1 then x.2 else f j) l i).length = 64
    refine ih (fun j => ?_) (fun y hy => hl y (by simp [hy])) i
    by_cases h : j = x.1
    · simp [h, hl x (by simp)]
    · simp [h, hf j]
end Go.Proofs.Ytckgcfkahffibaa
