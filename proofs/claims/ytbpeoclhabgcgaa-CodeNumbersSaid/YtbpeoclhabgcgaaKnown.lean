import Derived.Test.YtbpeoclhabgcgaaWire8
namespace Go.Proofs.Ytbpeoclhabgcgaa
open Go.RowKit
set_option linter.unusedVariables false
set_option linter.unusedSimpArgs false

/-- What a reader's blocks are. -/
def RdS (a : Nat) (v : Value) (k : Nat) : Prop := k = a ∨ v.ownBlock = some k
def Apart (A B : Nat → Prop) : Prop := ∀ k, A k → ¬ B k
theorem Rd.in {w : World} {b : Nat} {vs : Value} {r : RS} (h : Rd w b vs r) : ∀ k, RdS b vs k → k < w.heap.size := by
  rintro k (rfl | hk)
  · exact h.lt
  · exact (h.own.lt k hk).2
theorem Wr.in {w : World} {b : Nat} {vs : Value} {r : List UInt8} (h : Wr w b vs r) : ∀ k, WrS b vs k → k < w.heap.size := by
  rintro k (rfl | hk)
  · exact h.lt
  · exact (h.own.lt k hk).2
/-- A reader beside a writer that writes. -/
theorem Rd.beside {w w1 : World} {a b : Nat} {v v1 vs : Value} {r : RS} (h : Rd w b vs r) (hd : Apart (RdS b vs) (WrS a v)) (hu : Upd (WrS a v) w w1)
    (hv : ∀ k, v1.ownBlock = some k → v.ownBlock = some k ∨ w.heap.size ≤ k) : Rd w1 b vs r ∧ Apart (RdS b vs) (WrS a v1) := by
  refine ⟨h.upd hu (fun k _ hk => hd k hk), fun k hk hw => ?_⟩
  rcases hw with rfl | hw
  · exact hd _ hk (.inl rfl)
  · rcases hv k hw with h' | h'
    · exact hd k hk (.inr h')
    · have := h.in k hk; omega
/-- A writer beside a reader that reads. -/
theorem Wr.beside {w w1 : World} {a b : Nat} {v vs : Value} {l : List UInt8} (h : Wr w a v l) (hd : Apart (RdS b vs) (WrS a v)) (hu : Upd (fun k => k = b) w w1) : Wr w1 a v l :=
  h.upd hu (fun k _ hk e => hd k (.inl e) hk)

/-- A set of blocks of the call's own. -/
def New (w0 : World) (S : Nat → Prop) : Prop := ∀ k, S k → w0.heap.size ≤ k
theorem Upd.new {w0 w w1 : World} {S : Nat → Prop} (h : Upd (fun _ => False) w0 w) (hn : New w0 S) (hu : Upd S w w1) : Upd (fun _ => False) w0 w1 :=
  h.trans hu (fun i hi hs => by have := hn i hs; omega)
theorem New.next {w0 w : World} {a : Nat} {v v1 : Value} (hn : New w0 (WrS a v)) (hu : Upd (fun _ => False) w0 w) (hv : ∀ k, v1.ownBlock = some k → v.ownBlock = some k ∨ w.heap.size ≤ k) : New w0 (WrS a v1) := by
  rintro k (rfl | hk)
  · exact hn _ (.inl rfl)
  · rcases hv k hk with h | h
    · exact hn k (.inr h)
    · exact Nat.le_trans hu.size h

theorem enc300 : encN 300 = [172, 2] := by rw [encN_big (by omega), encN_small (by omega)]; rfl
theorem enc1 : encN 1 = [1] := by rw [encN_small (by omega)]; rfl

/-- A closed run: true; what it writes is its own. -/
def TrueP (w : World) (e : Ending) (w' : World) : Prop := e = .returned (.bool true) ∧ Upd (fun _ => False) w w'

set_option maxHeartbeats 1000000 in
set_option maxRecDepth 100000 in
theorem known_any (w : World) : Calls Try.prog 16 #[] w (TrueP w) := by
  go_enter Try.func16, Try.ntmps16
  go_wp2_with fail
  refine (newWriter_any _).mono ?_
  rintro e w1 ⟨a, rfl, ha, hw, hu⟩
  have HW := Lib.hid hw
  have HU := Lib.hid hu
  have HA := Lib.hid ha
  clear hw hu ha
  go_wp2_with fail
  have hb : Bytes (w1.alloc (.cells #[.int .u8 128, .int .u8 0] 5)) (.slice (some ⟨w1.heap.size, 0, none⟩) 2 2) [128, 0] :=
    Bytes_own (base := 0) (World.ownsRow_lit w1 #[.int .u8 128, .int .u8 0] 2 (Nat.zero_le _) (by simp [maxLen]) rfl)
  refine (newReader_any _ _ _ hb (by simp)).mono ?_
  rintro e w2 ⟨b, vs, rfl, hb1, hb2, hr, hu2⟩
  have hW2 : Wr w2 a (.slice none 0 0) [] := HW.out.upd (((Upd.refl (fun _ => False) w1).alloc _).trans' hu2) (fun _ _ _ h => h)
  have hd : Apart (RdS b vs) (WrS a (.slice none 0 0)) := by
    rintro k hk (rfl | hk')
    · have hlt := HW.out.lt
      rcases hk with rfl | hk
      · simp at hb1; omega
      · have := hb2 _ hk; simp at this; omega
    · simp [Value.ownBlock] at hk'
  have hnew : New w (WrS a (.slice none 0 0)) := by
    rintro k (rfl | hk)
    · exact HA.out
    · simp [Value.ownBlock] at hk
  have hnr : w.heap.size ≤ b := by have := HU.out.size; simp at hb1; omega
  have HU2 := Lib.hid (HU.out.trans' (((Upd.refl (fun _ => False) w1).alloc (.cells #[.int .u8 128, .int .u8 0] 5)).trans' hu2))
  have HW2 := Lib.hid hW2
  have HD := Lib.hid hd
  have HR := Lib.hid hr
  have HN := Lib.hid hnew
  have HB := Lib.hid hnr
  clear hb hb1 hb2 hr hu2 hW2 hd hnew hnr
  go_wp2_with fail
  refine (number_any a _ _ 300 _ HW2.out ⟨by omega, by omega⟩ (by simp)).mono ?_
  rintro e w3 ⟨rfl, v3, hw3, hu3, hv3⟩
  have HW3 := Lib.hid hw3
  have HRD := Lib.hid (HR.out.beside HD.out hu3 hv3)
  have HU3 := Lib.hid (HU2.out.new HN.out hu3)
  have HN3 := Lib.hid (HN.out.next HU2.out hv3)
  clear hw3 hu3 hv3
  go_wp2_with fail
  refine (wsigned_any a _ (-1) _ _ HW3.out ⟨by omega, by omega⟩ (by rw [show (300 : Int).toNat = 300 from rfl, enc300]; simp)).mono ?_
  rintro e w4 ⟨rfl, v4, hw4, hu4, hv4⟩
  have HRD4 := Lib.hid (HRD.out.1.beside HRD.out.2 hu4 hv4)
  have HU4 := Lib.hid (HU3.out.new HN3.out hu4)
  have HN4 := Lib.hid (HN3.out.next HU3.out hv4)
  have hl : [] ++ encN (300 : Int).toNat ++ encN (zig (-1)).toNat = [172, 2, 1] := by
    rw [show (300 : Int).toNat = 300 from rfl, enc300, show (zig (-1)).toNat = 1 from rfl, enc1]; rfl
  rw [hl] at hw4
  have HW4 := Lib.hid hw4
  clear hw4 hu4 hv4 hl
  go_wp2_with fail
  refine (rnum_any b vs _ 9 _ HRD4.out.1).mono ?_
  have hnum : RS.number ⟨[128, 0], 0, 0, 0⟩ 9 = (⟨[128, 0], 0, 12, 0⟩, 0) := by rfl
  intro e w5 hp
  unfold RNumP at hp
  rw [hnum] at hp
  obtain ⟨rfl, hr5, hu5⟩ := hp
  have HW5 := Lib.hid (HW4.out.beside HRD4.out.2 hu5)
  have HR5 := Lib.hid hr5
  have HU5 := Lib.hid (HU4.out.new (fun k (h : k = b) => h ▸ HB.out) hu5)
  clear hnum hr5 hu5
  go_wp2_with fail
  refine (rend_any b vs _ _ HR5.out).mono ?_
  have hfin : RS.fin ⟨[128, 0], 0, 12, 0⟩ = (12, 0) := rfl
  intro e w6 hp
  rw [hfin] at hp
  obtain ⟨rfl, n, rfl⟩ := hp
  clear hfin
  go_wp2_with fail
  refine (done_any a _ _ _ (HW5.out.upd ((Upd.refl (fun _ => False) w5).drewN n) (fun _ _ _ h => h)) (by simp)).mono ?_
  rintro e w7 ⟨v7, rfl, ho, hu⟩
  have hs := str_of (Bytes_own ho)
  have hsl : strOf [172, 2, 1] = { data := #[172, 2, 1] } := rfl
  rw [hsl] at hs
  have HU7 := Lib.hid hu
  clear ho hu hsl
  go_wp2
  go_ret
  exact ⟨rfl, (HU5.out.drewN n).trans' HU7.out⟩
end Go.Proofs.Ytbpeoclhabgcgaa
