import Derived.Test.YtbpeoclhabgcgaaLst
import Derived.Deep.RegionHeld3
import Derived.Deep.RegionWith
import Derived.Deep.RegionLaw
import Derived.Deep.CutRange
import Derived.Deep.LoopGhost
namespace Go.Proofs.Ytbpeoclhabgcgaa
open Go.RowKit
set_option linter.unusedVariables false
set_option linter.unusedSimpArgs false

theorem info27 : (Try.prog.info? 27).map (fun i => (i.zero, i.size, i.bytes)) = some (some (.slice none 0 0), 1, 24) := by kernel_rfl
/-- The book's own cells and its two lists. -/
structure Bc (w : World) (B k : Nat) (Lv Wv : Value) (s : Int) (vs xs : List Value) : Prop where
  cell : w.heap[k]? = some (.cells #[Lv, Wv, .int .i64 s, .bool false] 43 (0, 0))
  kB : k < B
  lst : Lst w B 27 Lv vs
  was : Lst w B 27 Wv xs
  two : ∀ j, Lv.ownBlock = some j → Wv.ownBlock ≠ some j
structure Ent where
  v : Value
  x : Value
  l : List UInt8
/-- What is kept, and what it was. -/
structure Ents (w : World) (B : Nat) (Lv Wv : Value) (E : List Ent) : Prop where
  v : ∀ e ∈ E, w.ownsRow B 5 1 e.v e.l.length (bytesV e.l)
  x : ∀ e ∈ E, w.ownsRow B 5 1 e.x e.l.length (bytesV e.l)
  len : ∀ e ∈ E, e.l.length ≤ 140737488355328
  lv : ∀ e ∈ E, ∀ j, e.v.ownBlock = some j → Lv.ownBlock ≠ some j ∧ Wv.ownBlock ≠ some j
  lx : ∀ e ∈ E, ∀ j, e.x.ownBlock = some j → Lv.ownBlock ≠ some j ∧ Wv.ownBlock ≠ some j
  vv : E.Pairwise fun e f => ∀ j, e.v.ownBlock = some j → f.v.ownBlock ≠ some j

theorem Bc.upd {S : Nat → Prop} {w w' : World} {B k : Nat} {Lv Wv : Value} {s : Int} {vs xs : List Value} (h : Bc w B k Lv Wv s vs xs) (hu : Upd S w w') (h0 : ¬ S k) (h1 : ∀ j, B ≤ j → j < w.heap.size → ¬ S j) : Bc w' B k Lv Wv s vs xs :=
  ⟨hu.heap_some h.cell h0, h.kB, h.lst.upd hu (fun j hj => h1 j (h.lst.lt j hj).1 (h.lst.lt j hj).2), h.was.upd hu (fun j hj => h1 j (h.was.lt j hj).1 (h.was.lt j hj).2), h.two⟩
theorem Ents.upd {S : Nat → Prop} {w w' : World} {B : Nat} {Lv Wv : Value} {E : List Ent} (h : Ents w B Lv Wv E) (hu : Upd S w w') (h1 : ∀ j, B ≤ j → j < w.heap.size → S j → Lv.ownBlock = some j ∨ Wv.ownBlock = some j) : Ents w' B Lv Wv E :=
  ⟨fun e he => ownsRow_upd (h.v e he) hu (fun j hj hs => by
      rcases h1 j ((h.v e he).lt j hj).1 ((h.v e he).lt j hj).2 hs with h2 | h2
      · exact (h.lv e he j hj).1 h2
      · exact (h.lv e he j hj).2 h2),
   fun e he => ownsRow_upd (h.x e he) hu (fun j hj hs => by
      rcases h1 j ((h.x e he).lt j hj).1 ((h.x e he).lt j hj).2 hs with h2 | h2
      · exact (h.lx e he j hj).1 h2
      · exact (h.lx e he j hj).2 h2), h.len, h.lv, h.lx, h.vv⟩
/-- The lists lie elsewhere: where they lay, or in new memory. -/
theorem Ents.moved {w : World} {B N : Nat} {Lv Wv Lv' Wv' : Value} {E : List Ent} (h : Ents w B Lv Wv E) (hN : ∀ e ∈ E, (∀ j, e.v.ownBlock = some j → j < N) ∧ (∀ j, e.x.ownBlock = some j → j < N))
    (hl : ∀ j, Lv'.ownBlock = some j → Lv.ownBlock = some j ∨ N ≤ j) (hw : ∀ j, Wv'.ownBlock = some j → Wv.ownBlock = some j ∨ N ≤ j) : Ents w B Lv' Wv' E := by
  refine ⟨h.v, h.x, h.len, fun e he j hj => ⟨fun e1 => ?_, fun e1 => ?_⟩, fun e he j hj => ⟨fun e1 => ?_, fun e1 => ?_⟩, h.vv⟩
  · rcases hl j e1 with h2 | h2
    · exact (h.lv e he j hj).1 h2
    · have := (hN e he).1 j hj; omega
  · rcases hw j e1 with h2 | h2
    · exact (h.lv e he j hj).2 h2
    · have := (hN e he).1 j hj; omega
  · rcases hl j e1 with h2 | h2
    · exact (h.lx e he j hj).1 h2
    · have := (hN e he).2 j hj; omega
  · rcases hw j e1 with h2 | h2
    · exact (h.lx e he j hj).2 h2
    · have := (hN e he).2 j hj; omega
theorem Ents.tail {w : World} {B : Nat} {Lv Wv : Value} {e : Ent} {E : List Ent} (h : Ents w B Lv Wv (e :: E)) : Ents w B Lv Wv E :=
  ⟨fun f hf => h.v f (.tail _ hf), fun f hf => h.x f (.tail _ hf), fun f hf => h.len f (.tail _ hf), fun f hf => h.lv f (.tail _ hf), fun f hf => h.lx f (.tail _ hf), (List.pairwise_cons.1 h.vv).2⟩
theorem Bc.lt {w : World} {B k : Nat} {Lv Wv : Value} {s : Int} {vs xs : List Value} (h : Bc w B k Lv Wv s vs xs) : k < w.heap.size := (Array.getElem?_eq_some_iff.1 h.cell).1

theorem Bc.put0 {S : Nat → Prop} {w w1 : World} {B k : Nat} {Lv Wv Lv1 : Value} {s : Int} {vs xs vs' : List Value} (h : Bc w B k Lv Wv s vs xs) (hu : Upd S w w1) (hS : ∀ j, j < w.heap.size → S j → Lv.ownBlock = some j)
    (hl : Lst w1 B 27 Lv1 vs') (hn : ∀ j, Lv1.ownBlock = some j → Lv.ownBlock = some j ∨ w.heap.size ≤ j) : Bc (w1.setCell ⟨k, 0, none⟩ Lv1) B k Lv1 Wv s vs' xs := by
  have hkB := h.kB
  have h1 : w1.heap[k]? = some (.cells #[Lv, Wv, .int .i64 s, .bool false] 43 (0, 0)) := hu.heap_some h.cell (fun e => by have := (h.lst.lt k (hS k h.lt e)).1; omega)
  have hw1 : Lst w1 B 27 Wv xs := h.was.upd hu (fun j hj e => h.two j (hS j (h.was.lt j hj).2 e) hj)
  have hu1 := Upd.setCell (S := fun j => j = k) (Upd.refl (fun j => j = k) w1) (p := ⟨k, 0, none⟩) (fun _ => rfl) Lv1
  refine ⟨?_, hkB, hl.upd hu1 (fun j hj e => by have := (hl.lt j hj).1; omega), hw1.upd hu1 (fun j hj e => by have := (hw1.lt j hj).1; omega), fun j hj e => ?_⟩
  · rw [heap_setCell_same w1 k 0 _ 43 _ h1]; rfl
  · rcases hn j hj with h2 | h2
    · exact h.two j h2 e
    · have := (h.was.lt j e).2; omega
theorem Bc.put1 {S : Nat → Prop} {w w1 : World} {B k : Nat} {Lv Wv Wv1 : Value} {s : Int} {vs xs xs' : List Value} (h : Bc w B k Lv Wv s vs xs) (hu : Upd S w w1) (hS : ∀ j, j < w.heap.size → S j → Wv.ownBlock = some j)
    (hl : Lst w1 B 27 Wv1 xs') (hn : ∀ j, Wv1.ownBlock = some j → Wv.ownBlock = some j ∨ w.heap.size ≤ j) : Bc (w1.setCell ⟨k, 1, none⟩ Wv1) B k Lv Wv1 s vs xs' := by
  have hkB := h.kB
  have h1 : w1.heap[k]? = some (.cells #[Lv, Wv, .int .i64 s, .bool false] 43 (0, 0)) := hu.heap_some h.cell (fun e => by have := (h.was.lt k (hS k h.lt e)).1; omega)
  have hw1 : Lst w1 B 27 Lv vs := h.lst.upd hu (fun j hj e => h.two j hj (hS j (h.lst.lt j hj).2 e))
  have hu1 := Upd.setCell (S := fun j => j = k) (Upd.refl (fun j => j = k) w1) (p := ⟨k, 1, none⟩) (fun _ => rfl) Wv1
  refine ⟨?_, hkB, hw1.upd hu1 (fun j hj e => by have := (hw1.lt j hj).1; omega), hl.upd hu1 (fun j hj e => by have := (hl.lt j hj).1; omega), fun j hj e => ?_⟩
  · rw [heap_setCell_same w1 k 1 _ 43 _ h1]; rfl
  · rcases hn j e with h2 | h2
    · exact h.two j hj h2
    · have := (h.lst.lt j hj).2; omega
theorem Bc.put2 {w : World} {B k : Nat} {Lv Wv : Value} {s s' : Int} {vs xs : List Value} (h : Bc w B k Lv Wv s vs xs) : Bc (w.setCell ⟨k, 2, none⟩ (.int .i64 s')) B k Lv Wv s' vs xs := by
  have hkB := h.kB
  have hu1 := Upd.setCell (S := fun j => j = k) (Upd.refl (fun j => j = k) w) (p := ⟨k, 2, none⟩) (fun _ => rfl) (.int .i64 s')
  refine ⟨?_, hkB, h.lst.upd hu1 (fun j hj e => by have := (h.lst.lt j hj).1; omega), h.was.upd hu1 (fun j hj e => by have := (h.was.lt j hj).1; omega), h.two⟩
  rw [heap_setCell_same w k 2 _ 43 _ h.cell]; rfl
theorem Bc.put3 {w : World} {B k : Nat} {Lv Wv : Value} {s : Int} {vs xs : List Value} (h : Bc w B k Lv Wv s vs xs) : Bc (w.setCell ⟨k, 3, none⟩ (.bool false)) B k Lv Wv s vs xs := by
  have hkB := h.kB
  have hu1 := Upd.setCell (S := fun j => j = k) (Upd.refl (fun j => j = k) w) (p := ⟨k, 3, none⟩) (fun _ => rfl) (.bool false)
  refine ⟨?_, hkB, h.lst.upd hu1 (fun j hj e => by have := (h.lst.lt j hj).1; omega), h.was.upd hu1 (fun j hj e => by have := (h.was.lt j hj).1; omega), h.two⟩
  rw [heap_setCell_same w k 3 _ 43 _ h.cell]; rfl
theorem Ents.lt {w : World} {B : Nat} {Lv Wv : Value} {E : List Ent} (h : Ents w B Lv Wv E) : ∀ e ∈ E, (∀ j, e.v.ownBlock = some j → j < w.heap.size) ∧ (∀ j, e.x.ownBlock = some j → j < w.heap.size) :=
  fun e he => ⟨fun j hj => ((h.v e he).lt j hj).2, fun j hj => ((h.x e he).lt j hj).2⟩
theorem Ents.setK {w : World} {B k i : Nat} {Lv Wv u : Value} {E : List Ent} (h : Ents w B Lv Wv E) (hk : k < B) : Ents (w.setCell ⟨k, i, none⟩ u) B Lv Wv E :=
  h.upd (Upd.setCell (S := fun j => j = k) (Upd.refl (fun j => j = k) w) (p := ⟨k, i, none⟩) (fun _ => rfl) u) (fun j hj _ e => by omega)
/-- One more is kept. -/
theorem Ents.add {w : World} {B : Nat} {Lv Wv v x : Value} {l : List UInt8} {E : List Ent} (h : Ents w B Lv Wv E) (hv : w.ownsRow B 5 1 v l.length (bytesV l)) (hx : w.ownsRow B 5 1 x l.length (bytesV l)) (hl : l.length ≤ 140737488355328)
    (h1 : ∀ j, v.ownBlock = some j → Lv.ownBlock ≠ some j ∧ Wv.ownBlock ≠ some j) (h2 : ∀ j, x.ownBlock = some j → Lv.ownBlock ≠ some j ∧ Wv.ownBlock ≠ some j) (h3 : ∀ j, v.ownBlock = some j → ∀ e ∈ E, e.v.ownBlock ≠ some j) : Ents w B Lv Wv (E ++ [⟨v, x, l⟩]) := by
  refine ⟨?_, ?_, ?_, ?_, ?_, ?_⟩
  · intro e he; rcases List.mem_append.1 he with he | he
    · exact h.v e he
    · simp at he; subst he; exact hv
  · intro e he; rcases List.mem_append.1 he with he | he
    · exact h.x e he
    · simp at he; subst he; exact hx
  · intro e he; rcases List.mem_append.1 he with he | he
    · exact h.len e he
    · simp at he; subst he; exact hl
  · intro e he; rcases List.mem_append.1 he with he | he
    · exact h.lv e he
    · simp at he; subst he; exact h1
  · intro e he; rcases List.mem_append.1 he with he | he
    · exact h.lx e he
    · simp at he; subst he; exact h2
  · rw [List.pairwise_append]
    refine ⟨h.vv, List.pairwise_singleton _ _, fun e he f hf j hj hk => ?_⟩
    simp at hf; subst hf
    exact h3 j hk e he hj

theorem Bc.c0 {w : World} {B k : Nat} {Lv Wv : Value} {s : Int} {vs xs : List Value} (h : Bc w B k Lv Wv s vs xs) : w.cell? ⟨k, 0, none⟩ = some Lv := by rw [cell_of_row w k 0 _ 43 (0, 0) h.cell]; rfl
theorem Bc.c1 {w : World} {B k : Nat} {Lv Wv : Value} {s : Int} {vs xs : List Value} (h : Bc w B k Lv Wv s vs xs) : w.cell? ⟨k, 1, none⟩ = some Wv := by rw [cell_of_row w k 1 _ 43 (0, 0) h.cell]; rfl
theorem Bc.c2 {w : World} {B k : Nat} {Lv Wv : Value} {s : Int} {vs xs : List Value} (h : Bc w B k Lv Wv s vs xs) : w.cell? ⟨k, 2, none⟩ = some (.int .i64 s) := by rw [cell_of_row w k 2 _ 43 (0, 0) h.cell]; rfl
theorem Bc.c3 {w : World} {B k : Nat} {Lv Wv : Value} {s : Int} {vs xs : List Value} (h : Bc w B k Lv Wv s vs xs) : w.cell? ⟨k, 3, none⟩ = some (.bool false) := by rw [cell_of_row w k 3 _ 43 (0, 0) h.cell]; rfl
theorem Bc.fr {w : World} {B k : Nat} {Lv Wv : Value} {s : Int} {vs xs : List Value} (h : Bc w B k Lv Wv s vs xs) (i : Nat) : w.frozen? ⟨k, i, none⟩ = false := frozen_of_row w k i _ 43 h.cell

/-- A book that holds these. -/
def Bk (w : World) (B k : Nat) (E : List Ent) : Prop := ∃ Lv Wv s, Bc w B k Lv Wv s (E.map (·.v)) (E.map (·.x)) ∧ Ents w B Lv Wv E

def KCut (w wx : World) (B k : Nat) (Lv v : Value) (s : Int) (E : List Ent) (l : List UInt8) : Prop :=
  ∃ Wv1 x, Bc wx B k Lv Wv1 s ((E ++ [Ent.mk v x l]).map Ent.v) ((E ++ [Ent.mk v x l]).map Ent.x) ∧ Ents wx B Lv Wv1 (E ++ [Ent.mk v x l]) ∧ Upd (fun j => j = k ∨ B ≤ j) w wx

theorem KCut.of {w w2 w3 w4 : World} {B k : Nat} {Lv Wv Wv1 v x : Value} {s : Int} {E : List Ent} {l : List UInt8} (hc : Bc w2 B k Lv Wv s (E.map (·.v) ++ [v]) (E.map (·.x))) (he : Ents w2 B Lv Wv E) (hu : Upd (fun j => j = k ∨ B ≤ j) w w2)
    (hv : w2.ownsRow B 5 1 v l.length (bytesV l)) (hl : l.length ≤ 140737488355328) (hf : ∀ j, v.ownBlock = some j → Lv.ownBlock ≠ some j ∧ Wv.ownBlock ≠ some j) (hfe : ∀ j, v.ownBlock = some j → ∀ e ∈ E, e.v.ownBlock ≠ some j)
    (hx : w3.ownsRow B 5 1 x l.length (bytesV l)) (hxn : ∀ j, x.ownBlock = some j → w2.heap.size ≤ j) (o : Obj) (hu3 : Upd (fun _ => False) w2 w3) (hg : (w3.alloc o).grownBy w4 Wv.ownBlock) (hl4 : Lst w4 B 27 Wv1 (E.map (·.x) ++ [x]))
    (hn : ∀ j, Wv1.ownBlock = some j → Wv.ownBlock = some j ∨ (w3.alloc o).heap.size ≤ j) : KCut w (w4.setCell ⟨k, 1, none⟩ Wv1) B k Lv v s E l := by
  have hkB := hc.kB
  have hs3 := hu3.size
  have hsz : (w3.alloc o).heap.size = w3.heap.size + 1 := by simp
  have hu4 : Upd (fun j => Wv.ownBlock = some j) w2 w4 := ((hu3.mono (fun _ _ h => h.elim)).alloc _).grown hg (fun j hj _ => hj)
  have hu34 : Upd (fun j => Wv.ownBlock = some j) w3 w4 := ((Upd.refl _ w3).alloc _).grown hg (fun j hj _ => hj)
  have hn' : ∀ j, Wv1.ownBlock = some j → Wv.ownBlock = some j ∨ w2.heap.size ≤ j := fun j hj => by
    rcases hn j hj with h | h
    · exact .inl h
    · right; omega
  have hux : Upd (fun j => j = k) w4 (w4.setCell ⟨k, 1, none⟩ Wv1) := Upd.setCell (S := fun j => j = k) (Upd.refl (fun j => j = k) w4) (p := ⟨k, 1, none⟩) (fun _ => rfl) Wv1
  have hC := hc.put1 hu4 (fun _ _ h => h) hl4 hn'
  refine ⟨Wv1, x, by rw [List.map_append, List.map_append]; exact hC, ?_, (hu.trans (hu4.mono (S' := fun j => j = k ∨ B ≤ j) (fun j _ hj => .inr (hc.was.lt j hj).1)) (fun _ _ h => h)).setCell (p := ⟨k, 1, none⟩) (fun _ => .inl rfl) _⟩
  refine (((he.upd hu4 (fun j _ _ h => .inr h)).moved he.lt (fun j h => .inl h) hn').setK hkB).add ?_ ?_ hl ?_ ?_ hfe
  · exact ownsRow_upd (ownsRow_upd hv hu4 (fun j hj e => (hf j hj).2 e)) hux (fun j hj e => by have := (hv.lt j hj).1; omega)
  · exact ownsRow_upd (ownsRow_upd hx hu34 (fun j hj e => by have := hxn j hj; have := (hc.was.lt j e).2; omega)) hux (fun j hj e => by have := (hx.lt j hj).1; omega)
  · intro j hj
    refine ⟨(hf j hj).1, fun e => ?_⟩
    rcases hn' j e with h | h
    · exact (hf j hj).2 h
    · have := (hv.lt j hj).2; omega
  · intro j hj
    have h1 := hxn j hj
    refine ⟨fun e => by have := (hc.lst.lt j e).2; omega, fun e => ?_⟩
    rcases hn j e with h | h
    · have := (hc.was.lt j h).2; omega
    · have := (hx.lt j hj).2; omega

def KeepP (B k : Nat) (E : List Ent) (w : World) (e : Ending) (w' : World) : Prop :=
  e = .returned (.tuple #[]) ∧ (∃ E', E'.length ≤ E.length + 1 ∧ Bk w' B k E') ∧ Upd (fun j => j = k ∨ B ≤ j) w w'

set_option maxHeartbeats 1000000 in
set_option maxRecDepth 100000 in
theorem keep_any (B k : Nat) (E : List Ent) (v : Value) (l : List UInt8) (w : World) (hb : Bk w B k E) (hE : E.length ≤ 1000) (hB : B ≤ w.heap.size) (hv : w.ownsRow B 5 1 v l.length (bytesV l)) (hl : l.length ≤ 140737488355328)
    (hf : ∀ Lv Wv s, w.heap[k]? = some (.cells #[Lv, Wv, .int .i64 s, .bool false] 43 (0, 0)) → ∀ j, v.ownBlock = some j → Lv.ownBlock ≠ some j ∧ Wv.ownBlock ≠ some j) (hfe : ∀ j, v.ownBlock = some j → ∀ e ∈ E, e.v.ownBlock ≠ some j) :
    Calls Try.prog 24 #[.pointer (some ⟨k, 0, none⟩), v] w (KeepP B k E w) := by
  obtain ⟨Lv, Wv, s, hc, he⟩ := hb
  have hf' := hf Lv Wv s hc.cell
  obtain ⟨i27, hi27, hz0, hz1, hz2⟩ := info_parts info27
  have HC := Lib.hid hc
  have HE := Lib.hid he
  have HV := Lib.hid hv
  have c0 : w.cell? ⟨k, 0, none⟩ = some Lv := by rw [cell_of_row w k 0 _ 43 (0, 0) hc.cell]; rfl
  have f0 : ∀ (w' : World) cs, w'.heap[k]? = some (.cells cs 43 (0, 0)) → ∀ i, w'.frozen? ⟨k, i, none⟩ = false := fun w' cs h i => frozen_of_row w' k i _ 43 h
  obtain ⟨aov, capv, rfl, hcv1, hcv2, _⟩ := Bytes_own hv
  have hlt := hc.lt
  have hkB := hc.kB
  have ex : (E.map (·.x)).length = E.length := by simp
  have ec : (E.map (·.v)).length = E.length := by simp
  clear hc he hv hf
  go_enter Try.func24, Try.ntmps24
  go_wp2_with (at_builtin; go_must (refine wpList_append_lst _ rfl (.tmp 8) (.tmp 10) 41 41 rfl B 27 i27 _ 24 Try.underlying41 hi27 hz0 hz1 hz2 (by rfl) Lv (E.map (·.v)) rfl (HC.out.lst.upd ((Upd.refl (fun _ => False) w).alloc _) (fun _ _ h => h)) _ 1 [.slice aov l.length capv] rfl (Src.ofSlice _ Try.underlying41 _ _ _ _ rfl (World.news_of_block (heap_alloc_new w _)) (fun u hu => by simp at hu; subst hu; rfl)) (by rw [ec]; unfold maxLen; omega) (by rw [ec]; omega) (by simp; omega) (by omega) ?c8))
  case c8 =>
  intro Lv1 w1 g1 g2 g3
  have hu1 : Upd (fun j => Lv.ownBlock = some j) w w1 := ((Upd.refl (fun j => Lv.ownBlock = some j) w).alloc _).grown g2 (fun j hj _ => hj)
  have hn1 : ∀ j, Lv1.ownBlock = some j → Lv.ownBlock = some j ∨ w.heap.size ≤ j := by
    intro j hj
    rcases g3 j hj with h | h
    · exact .inl h
    · right; first | omega | (simp at h; omega)
  have hC2 := HC.out.put0 hu1 (fun _ _ h => h) g1 hn1
  have HC2 := Lib.hid hC2
  have HU2 : Hid (Upd (fun j => j = k ∨ B ≤ j) w (w1.setCell ⟨k, 0, none⟩ Lv1)) := (hu1.mono (fun j _ hj => .inr (HC.out.lst.lt j hj).1)).setCell (p := ⟨k, 0, none⟩) (fun _ => .inl rfl) _
  have HE2 : Hid (Ents (w1.setCell ⟨k, 0, none⟩ Lv1) B Lv1 Wv E) := ((HE.out.upd hu1 (fun j _ _ h => .inl h)).moved HE.out.lt hn1 (fun j h => .inl h)).setK hkB
  have HV2 : Hid ((w1.setCell ⟨k, 0, none⟩ Lv1).ownsRow B 5 1 (.slice aov l.length capv) l.length (bytesV l)) := ownsRow_upd (ownsRow_upd HV.out hu1 (fun j hj e => (hf' j hj).1 e)) (Upd.setCell (S := fun j => j = k) (Upd.refl (fun j => j = k) w1) (p := ⟨k, 0, none⟩) (fun _ => rfl) Lv1) (fun j hj e => by have := (HV.out.lt j hj).1; omega)
  have HF2 : Hid (∀ j, (Value.slice aov l.length capv).ownBlock = some j → Lv1.ownBlock ≠ some j ∧ Wv.ownBlock ≠ some j) := fun j hj => ⟨fun e => by
    rcases hn1 j e with h | h
    · exact (hf' j hj).1 h
    · have := (HV.out.lt j hj).2; omega, (hf' j hj).2⟩
  have fr := frozen_of_row w1 k 0 _ 43 (hu1.heap_some HC.out.cell (fun e => by have := (HC.out.lst.lt k e).1; omega))
  have cc : ∃ u, w1.cell? ⟨k, 0, none⟩ = some u := ⟨_, hu1.cell_some c0 (fun e => by have := (HC.out.lst.lt k e).1; omega)⟩
  obtain ⟨u, cc⟩ := cc
  have hB2 : B ≤ (w1.setCell ⟨k, 0, none⟩ Lv1).heap.size := by have := HU2.out.size; omega
  clear g1 g2 g3 hu1 hn1 hC2 c0 hf'
  have HL1 : Hid (∃ ao1 cap1, Lv1 = .slice ao1 (E.length + 1) cap1) := by
    obtain ⟨ao1, cap1, e1, _⟩ := HC2.out.lst.shape
    exact ⟨ao1, cap1, by rw [e1]; simp⟩
  obtain ⟨ao1, cap1, rfl⟩ := HL1.out
  clear HL1
  go_wp2_with fail
  generalize w1.setCell ⟨k, 0, none⟩ (.slice ao1 (E.length + 1) cap1) = w2 at *
  clear fr cc
  have hk2 := HC2.out.lt
  have c1 : w2.cell? ⟨k, 1, none⟩ = some Wv := by rw [cell_of_row w2 k 1 _ 43 (0, 0) HC2.out.cell]; rfl
  have d1 := frozen_of_row w2 k 1 _ 43 HC2.out.cell
  obtain ⟨i5, hi5, y0, y1, y2⟩ := info_parts Try.info5
  go_cut [] from 14 to 24 (fun wx => KCut w wx B k (.slice ao1 (E.length + 1) cap1) (.slice aov l.length capv) s E l)
  case first =>
    go_region_law
    ((first
       | ((refine step_append_src_own _ (by rfl) _ _ 27 27 (by rfl) B 5 i5 _ 1 1 Try.underlying27 hi5 y0 y1 y2 rfl (.slice none 0 0) 0 [] (by rfl) (World.ownsRow_nil _ _ _ _) _ l.length (bytesV l) (by rfl) (Src.ofBytes Try.underlying27 (Bytes_own HV2.out)) (by unfold maxLen; omega) (by omega) (by simp; omega) ?_; intro x w3 p1 p2 p3 p4; rw [Nat.zero_add, List.nil_append] at p1; obtain ⟨aox, capx, rfl, px1, px2, _⟩ := Bytes_own p1; have hu3 : Upd (fun _ => False) w2 w3 := ((Upd.refl (fun _ => False) w2).drewN 1).grown p2 (fun j hj _ => by simp [Value.ownBlock] at hj); have c3 := hu3.cell_some c1 (fun h => h); have d3 := (hu3.frozen (p := ⟨k, 1, none⟩) hk2 (fun h => h)).trans d1; have c3b := (hu3.alloc (.cells #[.slice aox l.length capx] 27)).cell_some c1 (fun h => h); have d3b := ((hu3.alloc (.cells #[.slice aox l.length capx] 27)).frozen (p := ⟨k, 1, none⟩) hk2 (fun h => h)).trans d1))
       | ((refine step_append_lst _ (by rfl) _ _ 41 41 (by rfl) B 27 i27 _ 24 Try.underlying41 hi27 hz0 hz1 hz2 (by rfl) Wv (E.map (·.x)) (by rfl) (HC2.out.was.upd (hu3.alloc _) (fun _ _ h => h)) _ 1 [.slice aox l.length capx] (by rfl) (Src.ofSlice _ Try.underlying41 _ _ _ _ rfl (World.news_of_block (heap_alloc_new w3 _)) (fun u hu => by simp at hu; subst hu; rfl)) (by rw [ex]; unfold maxLen; omega) (by rw [ex]; omega) (by have := hu3.size; simp; omega) (by omega) ?_); intro Wv1 w4 q1 q2 q3; have hu4 : Upd (fun j => Wv.ownBlock = some j) w2 w4 := ((hu3.mono (fun _ _ h => h.elim)).alloc _).grown q2 (fun j hj _ => hj); have c4 := hu4.cell_some c1 (fun e => by have := (HC2.out.was.lt k e).1; omega); have d4 := (hu4.frozen (p := ⟨k, 1, none⟩) hk2 (fun e => by have := (HC2.out.was.lt k e).1; omega)).trans d1; obtain ⟨aow, capw, rfl, _⟩ := q1.shape)))
    all_goals (
      simp only [List.length_append, ex, List.length_singleton] at q1 q3
      go_wp2_with fail
      go_meet
      exact KCut.of HC2.out HE2.out HU2.out HV2.out hl HF2.out hfe p1 (fun j hj => by have := p3 j hj; simp [Value.ownBlock] at this; exact this) _ hu3 q2 q1 q3)
  case rest =>
  obtain ⟨Wv2, x, hc3, he3, hu3⟩ := hcut
  clear HC2 HE2 HU2 HV2 HF2 c1 d1 hk2 hB2
  generalize hEn : E ++ [Ent.mk (.slice aov l.length capv) x l] = E1 at hc3 he3
  have hE1 : E1.length = E.length + 1 := by rw [← hEn]; simp
  have c2 := hc3.c2
  have d2 := hc3.fr 2
  have HC3 := Lib.hid hc3
  have HE3 := Lib.hid he3
  have HU3 := Lib.hid hu3
  have HL3 := Lib.hid hE1
  clear hc3 he3 hu3 hEn hE1
  go_wp2_with fail
  go_loopg [] (E.length + 1) (fun g wr => ∃ E', E'.length = g ∧ g ≤ E.length + 1 ∧ Bk wr B k E' ∧ Upd (fun j => j = k ∨ B ≤ j) w wr)
  case atStart => exact ⟨E1, HL3.out, by omega, ⟨_, _, _, HC3.out.put2, HE3.out.setK hkB⟩, HU3.out.setCell (p := ⟨k, 2, none⟩) (fun _ => .inl rfl) _⟩
  case round =>
    obtain ⟨E', rfl, hgl, hbk, hur⟩ := hrel
    obtain ⟨Lr, Wr, sr, hcr, her⟩ := hbk
    have HCr := Lib.hid hcr
    have HEr := Lib.hid her
    have HUr := Lib.hid hur
    have c0 := hcr.c0
    have c1 := hcr.c1
    have c2 := hcr.c2
    have c3 := hcr.c3
    obtain ⟨aol, capl, rfl, hl1, hl2, hl3⟩ := hcr.lst.shape
    obtain ⟨aow, capw, rfl, hw1, hw2, hw3⟩ := hcr.was.shape
    have HLc := Lib.hid hl3
    have HWc := Lib.hid hw3
    simp only [List.length_map] at *
    clear hcr her hur hl3 hw3
    have stop : KeepP B k E w (.returned (.tuple #[])) wr := ⟨rfl, ⟨E', by omega, _, _, _, HCr.out, HEr.out⟩, HUr.out⟩
    have HST := Lib.hid stop
    clear stop
    have b3 : decide ((4000 : Int) < (E'.length : Int)) = false := by simp; omega
    by_cases hn1 : 1 < E'.length
    · have b1 : decide ((1 : Int) < (E'.length : Int)) = true := by simp; omega
      by_cases hs : 1000000 < sr
      · have b2 : decide ((1000000 : Int) < sr) = true := by simp [hs]
        obtain ⟨e, E'', rfl⟩ : ∃ e E'', E' = e :: E'' := by cases E' with | nil => simp at hn1 | cons e E'' => exact ⟨e, E'', rfl⟩
        obtain ⟨gl, dl, rfl, hlc⟩ := HLc.out (by simp)
        obtain ⟨gw, dw, rfl, hwc⟩ := HWc.out (by simp)
        have e0 := hlc 0 (by simp)
        have e1 := hwc 0 (by simp)
        simp only [Nat.add_zero, List.map_cons, List.getElem_cons_zero] at e0 e1
        clear hlc hwc HLc HWc
        generalize hnn : (e :: E'').length = n at *
        have HN := Lib.hid hnn
        have i0 : (0 : Int) ≤ ((0 : Nat) : Int) := by omega
        have i1 : (0 : Int) < (n : Int) := by omega
        have i2 : (1 : Int) ≤ (n : Int) := by omega
        have i3 : 0 < n := by omega
        have i4 : 1 ≤ n := by omega
        clear hn1 hs hnn
        have HB1 : Hid (Bytes wr.drew e.v e.l) := Bytes_drewN (Bytes_own (HEr.out.v e (by simp))) 1
        have HB2 : Hid (Bytes wr.drew e.x e.l) := Bytes_drewN (Bytes_own (HEr.out.x e (by simp))) 1
        have HL : Hid (e.l.length ≤ 140737488355328) := HEr.out.len e (by simp)
        have d3 := HCr.out.fr 3
        have kgl : k ≠ gl := by have := (HCr.out.lst.lt gl rfl).1; omega
        have kgw : k ≠ gw := by have := (HCr.out.was.lt gw rfl).1; omega
        have HC5 : Hid (∀ m, Bc ((wr.drewN m).setCell ⟨k, 3, none⟩ (.bool false)) B k (.slice (some ⟨gl, dl, none⟩) n capl) (.slice (some ⟨gw, dw, none⟩) n capw) sr ((e :: E'').map (·.v)) ((e :: E'').map (·.x))) := fun m => (HCr.out.upd ((Upd.refl (fun _ => False) wr).drewN m) (fun h => h) (fun _ _ _ h => h)).put3
        have HU5 : Hid (∀ m, Upd (fun j => j = k) wr ((wr.drewN m).setCell ⟨k, 3, none⟩ (.bool false))) := fun m => Upd.setCell (S := fun j => j = k) ((Upd.refl (fun j => j = k) wr).drewN m) (p := ⟨k, 3, none⟩) (fun _ => rfl) (.bool false)
        have HK3 : Hid (∀ m, ((wr.drewN m).setCell ⟨k, 3, none⟩ (.bool false)).cell? ⟨k, 3, none⟩ = some (.bool false) ∧ ((wr.drewN m).setCell ⟨k, 3, none⟩ (.bool false)).cell? ⟨k, 0, none⟩ = some (.slice (some ⟨gl, dl, none⟩) n capl) ∧ ((wr.drewN m).setCell ⟨k, 3, none⟩ (.bool false)).cell? ⟨k, 1, none⟩ = some (.slice (some ⟨gw, dw, none⟩) n capw) ∧ ((wr.drewN m).setCell ⟨k, 3, none⟩ (.bool false)).cell? ⟨gl, dl, none⟩ = some e.v ∧ ((wr.drewN m).setCell ⟨k, 3, none⟩ (.bool false)).cell? ⟨gw, dw, none⟩ = some e.x ∧ ((wr.drewN m).setCell ⟨k, 3, none⟩ (.bool false)).frozen? ⟨k, 3, none⟩ = false) := fun m => ⟨(HC5.out m).c3, (HC5.out m).c0, (HC5.out m).c1, (HU5.out m).cell_some e0 (fun h => kgl h.symm), (HU5.out m).cell_some e1 (fun h => kgw h.symm), (HC5.out m).fr 3⟩
        go_wp2_with fail
        go_region_held3 (fun w' => w'.cell? ⟨k, 3, none⟩ = some (.bool false) ∧ w'.cell? ⟨k, 0, none⟩ = some (.slice (some ⟨gl, dl, none⟩) n capl) ∧ w'.cell? ⟨k, 1, none⟩ = some (.slice (some ⟨gw, dw, none⟩) n capw) ∧ w'.cell? ⟨gl, dl, none⟩ = some e.v ∧ w'.cell? ⟨gw, dw, none⟩ = some e.x ∧ w'.frozen? ⟨k, 3, none⟩ = false) (first | exact HK3.out _ | go_keep)
          ((go_at_call 53; refine (same_eq e.v e.x e.l _ HB1.out HB2.out HL.out).mono ?_; rintro er wA ⟨rfl, nA, rfl⟩))
        have HC6 := Lib.hid (HC5.out (1 + nA))
        have HU6 := Lib.hid (HU5.out (1 + nA))
        rename_i hHeld
        clear HC5 HU5 HK3 HB1 HB2 hHeld
        generalize (wr.drewN (1 + nA)).setCell ⟨k, 3, none⟩ (.bool false) = w5 at *
        obtain ⟨aoe, cape, hev, _, hev2, _⟩ := Bytes_own (HEr.out.v e (by simp))
        have e5 := HU6.out.cell_some e0 (fun h => kgl h.symm)
        rw [hev] at e5
        have a0 := HC6.out.c0
        have a2 := HC6.out.c2
        have af := HC6.out.fr 2
        clear c0 c1 c2 c3 e0 e1 d3 hev
        go_wp2_with fail
        go_cut [] from 80 to 95 (fun wx => ∃ s', Bc wx B k (.slice (some ⟨gl, dl, none⟩) n capl) (.slice (some ⟨gw, dw, none⟩) n capw) s' ((e :: E'').map (·.v)) ((e :: E'').map (·.x)) ∧ Upd (fun j => j = k) w5 wx)
        case first =>
          go_region
          all_goals (
            go_wp2_with fail
            go_meet
            exact ⟨_, (HC6.out.upd ((Upd.refl (fun _ => False) w5).drewN 1) (fun h => h) (fun _ _ _ h => h)).put2, Upd.setCell (S := fun j => j = k) ((Upd.refl (fun j => j = k) w5).drewN 1) (p := ⟨k, 2, none⟩) (fun _ => rfl) _⟩)
        case rest =>
        obtain ⟨s', hc7, hu7⟩ := hcut
        obtain ⟨i27', hi27', _, hz1', _⟩ := info_parts info27
        obtain ⟨vs1, s1, s2, s3⟩ := slice_tail Try.underlying41 hi27' hz1' (x := e.v) (xs := E''.map (·.v)) hc7.lst
        obtain ⟨vs2, r1, r2, r3⟩ := slice_tail Try.underlying41 hi27' hz1' (x := e.x) (xs := E''.map (·.x)) hc7.was
        have hl8 := s2 _ hc7.lst
        have hl9 := r2 _ hc7.was
        obtain ⟨ax1, cx1, rfl, _⟩ := hl8.shape
        obtain ⟨ax2, cx2, rfl, _⟩ := hl9.shape
        simp only [List.length_map] at hl8 hl9 s1 r1 s3 r3
        have hc8 := hc7.put0 (Upd.refl (fun _ => False) _) (fun _ _ h => h.elim) hl8 (fun j hj => .inl (s3 j hj))
        have hc9 := hc8.put1 (Upd.refl (fun _ => False) _) (fun _ _ h => h.elim) (hl9.upd (Upd.setCell (S := fun j => j = k) (Upd.refl (fun j => j = k) _) (p := ⟨k, 0, none⟩) (fun _ => rfl) _) (fun j hj e => by have := (hl9.lt j hj).1; omega)) (fun j hj => .inl (r3 j hj))
        have HC9 := Lib.hid hc9
        have HE9 := Lib.hid (((((HEr.out.upd HU6.out (fun j hj _ e => by omega)).upd hu7 (fun j hj _ e => by omega)).moved (N := w5.heap.size) (fun f hf => ⟨fun j hj => by have := ((HEr.out.v f hf).lt j hj).2; have := HU6.out.size; omega, fun j hj => by have := ((HEr.out.x f hf).lt j hj).2; have := HU6.out.size; omega⟩) (fun j hj => .inl (s3 j hj)) (fun j hj => .inl (r3 j hj))).tail.setK (i := 0) (u := (.slice ax1 E''.length cx1)) hkB).setK (i := 1) (u := (.slice ax2 E''.length cx2)) hkB)
        have HU9 := Lib.hid (Upd.setCell (S := fun j => j = k) (Upd.setCell (S := fun j => j = k) (HU6.out.trans' hu7) (p := ⟨k, 0, none⟩) (fun _ => rfl) (.slice ax1 E''.length cx1)) (p := ⟨k, 1, none⟩) (fun _ => rfl) (.slice ax2 E''.length cx2))
        have m0 := hc7.c0
        have m1 := hc7.fr 0
        have m2 := hc8.c1
        have m3 := hc8.fr 1
        clear hc7 hu7 hc8 hc9 hl8 hl9 s2 s3 r2 r3
        go_wp2_with fail
        go_roundg (E''.length)
        case rel => exact ⟨E'', rfl, by have := HN.out; simp at this; omega, ⟨_, _, _, HC9.out, HE9.out⟩, HUr.out.trans (HU9.out.mono (fun j _ e => .inl e)) (fun _ _ h => h)⟩
        case measure => have := HN.out; simp at this; omega
      · have b2 : decide ((1000000 : Int) < sr) = false := by simp; omega
        clear hn1 hs
        go_wp2_with fail
        go_end0
        exact HST.out
    · have b1 : decide ((1 : Int) < (E'.length : Int)) = false := by simp; omega
      clear hn1
      go_wp2_with fail
      go_end0
      exact HST.out
end Go.Proofs.Ytbpeoclhabgcgaa
