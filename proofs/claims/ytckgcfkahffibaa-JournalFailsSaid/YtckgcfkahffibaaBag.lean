import Derived.Test.YtckgcfkahffibaaLaw24c
namespace Go.Proofs.Ytckgcfkahffibaa
open Go.RowKit
set_option linter.unusedVariables false
set_option linter.unusedSimpArgs false
abbrev Blks := Nat → List UInt8
/-- A disk at work, beside arrays of blocks, lists of writes and disks that only are read. -/
structure Bag (w wr : World) (k : Nat) (d : DS) (S : Nat → Prop) (vs : List (Nat × Blks)) (os : List (Value × Wl)) (ds : List (Nat × DS × (Nat → Prop))) : Prop where
  dd : Dsk wr k d S
  v : ∀ x ∈ vs, Var46 wr x.1 x.2
  o : ∀ x ∈ os, wr.ownsRow 0 33 65 x.1 x.2.length (wsV x.2)
  e : ∀ x ∈ ds, Dsk wr x.1 x.2.1 x.2.2
  s : ∀ j, S j → w.heap.size ≤ j
  sv : ∀ x ∈ vs, ¬ S x.1 ∧ w.heap.size ≤ x.1
  so : ∀ x ∈ os, ∀ j, x.1.ownBlock = some j → ¬ S j ∧ w.heap.size ≤ j
  se : ∀ x ∈ ds, ∀ j, x.2.2 j → ¬ S j ∧ w.heap.size ≤ j
  u : Upd (fun _ => False) w wr
  ov : ∀ x ∈ os, ∀ y ∈ vs, x.1.ownBlock ≠ some y.1
  ev : ∀ x ∈ ds, ∀ y ∈ vs, ¬ x.2.2 y.1
  vv : (vs.map (·.1)).Nodup
  eo : ∀ x ∈ os, ∀ y ∈ ds, ∀ j, x.1.ownBlock = some j → ¬ y.2.2 j
namespace Bag
variable {w wr wx : World} {k k' g : Nat} {d d' : DS} {S S' : Nat → Prop} {vs : List (Nat × Blks)} {os : List (Value × Wl)} {ds : List (Nat × DS × (Nat → Prop))} {f f' : Blks} {V : Value} {l : Wl}
theorem q (h : Bag w wr k d S vs os ds) (hu : Upd (fun _ => False) wr wx) : Bag w wx k d S vs os ds :=
  ⟨h.dd.upd0 hu, fun x hx => (h.v x hx).upd hu (fun h => h), fun x hx => ownsRow_upd (h.o x hx) hu (fun _ _ h => h), fun x hx => (h.e x hx).upd0 hu, h.s, h.sv, h.so, h.se, h.u.trans' hu, h.ov, h.ev, h.vv, h.eo⟩
theorem step (h : Bag w wr k d S vs os ds) (hd : Dsk wx k d' S') (hA : Upd S wr wx) (hs : ∀ j, S' j → S j ∨ wr.heap.size ≤ j) : Bag w wx k d' S' vs os ds :=
  ⟨hd, fun x hx => (h.v x hx).upd hA (h.sv x hx).1, fun x hx => ownsRow_upd (h.o x hx) hA (fun j hj => (h.so x hx j hj).1), fun x hx => (h.e x hx).upd hA (fun j hj => (h.se x hx j hj).1),
   fun j hj => (hs j hj).elim (h.s j) (fun hx => Nat.le_trans h.u.size hx),
   fun x hx => ⟨fun hg => (hs _ hg).elim (h.sv x hx).1 (fun hh => by have := (h.v x hx).lt; omega), (h.sv x hx).2⟩,
   fun x hx j hj => ⟨fun hg => (hs _ hg).elim (h.so x hx j hj).1 (fun hh => by have := own_lt (h.o x hx) hj; omega), (h.so x hx j hj).2⟩,
   fun x hx j hj => ⟨fun hg => (hs _ hg).elim (h.se x hx j hj).1 (fun hh => by have := (h.e x hx).lt j hj; omega), (h.se x hx j hj).2⟩,
   h.u.trans hA (fun j hj hg => by have := h.s j hg; omega), h.ov, h.ev, h.vv, h.eo⟩
/-- A write into one of the arrays. -/
theorem put (h : Bag w wr k d S ((g, f) :: vs) os ds) (hu : Upd (fun j => j = g) wr wx) (hv : Var46 wx g f') : Bag w wx k d S ((g, f') :: vs) os ds := by
  have hg := h.sv (g, f) (by simp)
  have hvv := h.vv
  rw [List.map_cons, List.nodup_cons] at hvv
  refine ⟨h.dd.upd hu (fun j hj e => hg.1 (by rw [← e]; exact hj)), fun x hx => ?_, fun x hx => ownsRow_upd (h.o x hx) hu (fun j hj e => h.ov x hx (g, f) (by simp) (by rw [hj, e])), fun x hx => (h.e x hx).upd hu (fun j hj e => h.ev x hx (g, f) (by simp) (by rw [← e]; exact hj)),
   h.s, fun x hx => ?_, h.so, h.se, h.u.trans hu (fun j hj e => by have := hg.2; omega), fun x hx y hy => ?_, fun x hx y hy => ?_, by rw [List.map_cons, List.nodup_cons]; exact hvv, h.eo⟩
  · rcases List.mem_cons.1 hx with rfl | hx
    · exact hv
    · exact (h.v x (by simp [hx])).upd hu (fun e => hvv.1 (List.mem_map.2 ⟨x, hx, e⟩))
  · rcases List.mem_cons.1 hx with rfl | hx
    · exact hg
    · exact h.sv x (by simp [hx])
  · rcases List.mem_cons.1 hy with rfl | hy
    · exact h.ov x hx (g, f) (by simp)
    · exact h.ov x hx y (by simp [hy])
  · rcases List.mem_cons.1 hy with rfl | hy
    · exact h.ev x hx (g, f) (by simp)
    · exact h.ev x hx y (by simp [hy])
/-- A new array of blocks. -/
theorem newv (h : Bag w wr k d S vs os ds) (hu : Upd (fun _ => False) wr wx) (hv : Var46 wx wr.heap.size f) : Bag w wx k d S ((wr.heap.size, f) :: vs) os ds := by
  have hq := h.q hu
  refine ⟨hq.dd, fun x hx => ?_, hq.o, hq.e, hq.s, fun x hx => ?_, hq.so, hq.se, hq.u, fun x hx y hy => ?_, fun x hx y hy => ?_, ?_, hq.eo⟩
  · rcases List.mem_cons.1 hx with rfl | hx
    · exact hv
    · exact hq.v x hx
  · rcases List.mem_cons.1 hx with rfl | hx
    · exact ⟨fun hg => by have := h.dd.lt _ hg; omega, h.u.size⟩
    · exact hq.sv x hx
  · rcases List.mem_cons.1 hy with rfl | hy
    · exact fun e => by have := own_lt (h.o x hx) e; omega
    · exact hq.ov x hx y hy
  · rcases List.mem_cons.1 hy with rfl | hy
    · exact fun e => by have := (h.e x hx).lt _ e; omega
    · exact hq.ev x hx y hy
  · rw [List.map_cons, List.nodup_cons]
    refine ⟨fun hm => ?_, hq.vv⟩
    obtain ⟨x, hx, e⟩ := List.mem_map.1 hm
    have := (h.v x hx).lt
    omega
theorem newo (h : Bag w wr k d S vs os ds) (hu : Upd (fun _ => False) wr wx) (ho : wx.ownsRow wr.heap.size 33 65 V l.length (wsV l)) : Bag w wx k d S vs ((V, l) :: os) ds := by
  have hq := h.q hu
  have hb : ∀ j, V.ownBlock = some j → wr.heap.size ≤ j := fun j hj => by
    rcases ho.2 with ⟨e, _⟩ | ⟨g', _, _, e, hb, _⟩
    · rw [e] at hj; simp [Value.ownBlock] at hj
    · rw [e] at hj; simp [Value.ownBlock] at hj; omega
  refine ⟨hq.dd, hq.v, fun x hx => ?_, hq.e, hq.s, hq.sv, fun x hx => ?_, hq.se, hq.u, fun x hx y hy => ?_, hq.ev, hq.vv, fun x hx y hy => ?_⟩
  · rcases List.mem_cons.1 hx with rfl | hx
    · exact ownsRow_base ho (fun _ _ => Nat.zero_le _)
    · exact hq.o x hx
  · rcases List.mem_cons.1 hx with rfl | hx
    · exact fun j hj => ⟨fun hg => by have := h.dd.lt j hg; have := hb j hj; omega, Nat.le_trans h.u.size (hb j hj)⟩
    · exact hq.so x hx
  · rcases List.mem_cons.1 hx with rfl | hx
    · exact fun e => by have := hb _ e; have := (h.v y hy).lt; omega
    · exact hq.ov x hx y hy
  · rcases List.mem_cons.1 hx with rfl | hx
    · exact fun j hj hg => by have := hb j hj; have := (h.e y hy).lt _ hg; omega
    · exact hq.eo x hx y hy
/-- Another disk takes the place; the former one is let go. -/
theorem newd (h : Bag w wr k d S vs os ds) (hu : Upd (fun _ => False) wr wx) (hd : Dsk wx k' d' S') (hs : ∀ j, S' j → wr.heap.size ≤ j) : Bag w wx k' d' S' vs os ds := by
  have hq := h.q hu
  exact ⟨hd, hq.v, hq.o, hq.e, fun j hj => Nat.le_trans h.u.size (hs j hj), fun x hx => ⟨fun hg => by have := hs _ hg; have := (h.v x hx).lt; omega, (h.sv x hx).2⟩,
    fun x hx j hj => ⟨fun hg => by have := hs _ hg; have := own_lt (h.o x hx) hj; omega, (h.so x hx j hj).2⟩, fun x hx j hj => ⟨fun hg => by have := hs _ hg; have := (h.e x hx).lt j hj; omega, (h.se x hx j hj).2⟩, hq.u, hq.ov, hq.ev, hq.vv, hq.eo⟩
/-- The same, the former one is kept. -/
theorem newk (h : Bag w wr k d S vs os ds) (hu : Upd (fun _ => False) wr wx) (hd : Dsk wx k' d' S') (hs : ∀ j, S' j → wr.heap.size ≤ j) : Bag w wx k' d' S' vs os ((k, d, S) :: ds) := by
  have hq := h.newd hu hd hs
  refine ⟨hq.dd, hq.v, hq.o, fun x hx => ?_, hq.s, hq.sv, hq.so, fun x hx => ?_, hq.u, hq.ov, fun x hx y hy => ?_, hq.vv, fun x hx y hy => ?_⟩
  · rcases List.mem_cons.1 hx with rfl | hx
    · exact h.dd.upd0 hu
    · exact hq.e x hx
  · rcases List.mem_cons.1 hx with rfl | hx
    · exact fun j hj => ⟨fun hg => by have := hs _ hg; have := h.dd.lt j hj; omega, h.s j hj⟩
    · exact hq.se x hx
  · rcases List.mem_cons.1 hx with rfl | hx
    · exact (h.sv y hy).1
    · exact hq.ev x hx y hy
  · rcases List.mem_cons.1 hy with rfl | hy
    · exact fun j hj => (h.so x hx j hj).1
    · exact hq.eo x hx y hy
/-- Back to the disk that was kept. -/
theorem back (h : Bag w wr k d S vs os [(k', d', S')]) : Bag w wr k' d' S' vs os [] :=
  ⟨h.e (k', d', S') (by simp), h.v, h.o, fun x hx => by simp at hx, fun j hj => (h.se (k', d', S') (by simp) j hj).2, fun x hx => ⟨h.ev (k', d', S') (by simp) x hx, (h.sv x hx).2⟩, fun x hx j hj => ⟨h.eo x hx (k', d', S') (by simp) j hj, (h.so x hx j hj).2⟩, fun x hx => by simp at hx, h.u, h.ov, fun x hx => by simp at hx, h.vv, fun x hx y hy => by simp at hy⟩
/-- An array of blocks is let go. -/
theorem dropv (h : Bag w wr k d S ((g, f) :: vs) os ds) : Bag w wr k d S vs os ds :=
  ⟨h.dd, fun x hx => h.v x (by simp [hx]), h.o, h.e, h.s, fun x hx => h.sv x (by simp [hx]), h.so, h.se, h.u, fun x hx y hy => h.ov x hx y (by simp [hy]), fun x hx y hy => h.ev x hx y (by simp [hy]), by have := h.vv; rw [List.map_cons, List.nodup_cons] at this; exact this.2, h.eo⟩
theorem wl (h : Bag w wr k d S vs os ds) (hg : Good l) (hm : (V, l) ∈ os) : WlR wr V l ∧ ∀ j, V.ownBlock = some j → ¬ S j ∧ j < wr.heap.size :=
  ⟨WlR.own (h.o _ hm) (fun x hx => (hg.at_ x hx).2), fun j hj => ⟨(h.so _ hm j hj).1, own_lt (h.o _ hm) hj⟩⟩
end Bag
/-- Two arrays of blocks compared. -/
theorem cmp46 {f g : Blks} (hf : B64 f) (hg : B64 g) : ∃ b : Bool, (∀ w, (binOp .neq 46 (.agg (flatV f).toArray) (.agg (flatV g).toArray)).run Try.prog w = .ok (.bool b) w) ∧ ((∀ j, j < 255 → f j = g j) → b = false) := by
  have hX := fun j hj => flatV_at hf j hj
  have hY := fun j hj => flatV_at hg j hj
  generalize flatV f = F at *
  generalize flatV g = G at *
  by_cases h : ∀ j, j < 255 → f j = g j
  · refine ⟨false, fun w => ?_, fun _ => rfl⟩
    obtain ⟨r, hr, hi⟩ := eq46' F G f g hf hg hX hY w
    rw [run_neq_struct, hr, hi.2 h]; rfl
  · refine ⟨true, fun w => ?_, fun h' => absurd h' h⟩
    obtain ⟨r, hr, hi⟩ := eq46' F G f g hf hg hX hY w
    have : r = false := by
      cases r with
      | false => rfl
      | true => exact absurd (hi.1 rfl) h
    rw [run_neq_struct, hr, this]; rfl
end Go.Proofs.Ytckgcfkahffibaa
