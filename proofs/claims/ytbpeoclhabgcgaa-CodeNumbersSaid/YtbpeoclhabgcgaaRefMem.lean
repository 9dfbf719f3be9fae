import Derived.Test.YtbpeoclhabgcgaaOneMem
/-
  WORDS ON THE REFERENCE's READING OF AN INSTRUCTION: the plain reading (oneR); the memory of hawserref13.One.
-/
namespace Go.Proofs.Ytbpeoclhabgcgaa
open Go.RowKit
set_option linter.unusedVariables false
set_option linter.unusedSimpArgs false
def rBody (op : Int) (r : RS) : RS × Int × Int × List UInt8 :=
  if op = 1 then (r.signed.1.signed.1, r.signed.2, r.signed.1.signed.2, [])
  else if op = 2 then ((r.text 200).1, 0, 0, (r.text 200).2) else (r, 0, 0, [])
def pB (op : Int) (r : RS) : RS × Int × Int := if op = 1 then (r.signed.1.signed.1, r.signed.2, r.signed.1.signed.2) else (r, 0, 0)
def lT (op : Int) (r : RS) : RS × List UInt8 := if op = 2 then r.text 200 else (r, [])
theorem rBody_eq (op : Int) (r : RS) : rBody op r = ((lT op (pB op r).1).1, (pB op r).2.1, (pB op r).2.2, (lT op (pB op r).1).2) := by
  unfold rBody lT pB
  by_cases h1 : op = 1
  · subst h1; simp
  · by_cases h2 : op = 2
    · subst h2; simp
    · simp [h1, h2]
def rR (op : Int) (r : RS) : RS × Int := if takesB op then r.word else (r, 0)
def rN (op A : Int) : Int := if op = 5 ∨ op = 6 then 1 else if op = 10 then A else 0
def bad1 (op : Int) (b : RS × Int × Int × List UInt8) : Bool := decide (op = 1) && (decide (b.1.why = 0) && !(fits b.2.1 && fits b.2.2.1))
def bad2 (op A : Int) (r : RS) : Bool := decide (op = 10) && (decide (r.why = 0) && !(decide (1 ≤ A) && decide (A ≤ 6)))
def opAt (l : List UInt8) (p : Nat) : Int := headI (l.drop p)
/-- What the reference reads at a place: 0, or why not; its reader then; the instruction. -/
def oneR (l : List UInt8) (p : Nat) : Int × RS × IV :=
  let op := opAt l p
  let b := rBody op ⟨l, p + 1, 0, 0⟩
  let sa := stA op b.1
  let sb := stB op sa.1
  let sr := rR op sb.1
  let ws := words sr.1 (rN op sa.2).toNat
  if okOp op = false then (12, ws.1, ivZ) else if bad1 op b = true then (12, ws.1, ivZ) else if bad2 op sa.2 sb.1 = true then (12, ws.1, ivZ) else if sr.2 ≠ 0 then (12, ws.1, ivZ)
  else if ws.1.why = 0 then (0, ws.1, ⟨p, op, sa.2, sb.2, b.2.1, b.2.2.1, b.2.2.2, ws.2.map (· + (ws.1.p : Int))⟩)
  else if ws.1.fin.1 = 12 ∨ ws.1.fin.1 = 3 then (12, ws.1, ivZ) else (10, ws.1, ivZ)
section
variable {l : List UInt8} {p : Nat} {op x y A B ref : Int} {tx : List UInt8} {r0 r2 r3 r5 r6 : RS}
theorem oneR_op (ho : opAt l p = op) (h : okOp op = false) : (oneR l p).1 = 12 := by
  subst ho
  show (ite _ _ _ : Int × RS × IV).1 = 12
  rw [if_pos h]
theorem oneR_b1 (ho : opAt l p = op) (hok : okOp op = true) (hr : r0 = ⟨l, p + 1, 0, 0⟩) (h : bad1 op (rBody op r0) = true) : (oneR l p).1 = 12 := by
  subst ho hr
  show (ite _ _ _ : Int × RS × IV).1 = 12
  rw [if_neg (by rw [hok]; simp), if_pos h]
theorem oneR_b2 (ho : opAt l p = op) (hok : okOp op = true) (hr : r0 = ⟨l, p + 1, 0, 0⟩) (h1 : bad1 op (rBody op r0) = false) (hb : rBody op r0 = (r2, x, y, tx)) (ha : stA op r2 = (r3, A)) (hsb : stB op r3 = (r5, B)) (h : bad2 op A r5 = true) : (oneR l p).1 = 12 := by
  subst ho hr
  have e1 : stA (opAt l p) (rBody (opAt l p) ⟨l, p + 1, 0, 0⟩).1 = (r3, A) := by rw [hb]; exact ha
  have e2 : stB (opAt l p) (stA (opAt l p) (rBody (opAt l p) ⟨l, p + 1, 0, 0⟩).1).1 = (r5, B) := by rw [e1]; exact hsb
  show (ite _ _ _ : Int × RS × IV).1 = 12
  rw [if_neg (by rw [hok]; simp), if_neg (by rw [h1]; simp), if_pos (by rw [e2, e1]; exact h)]
theorem oneR_b3 (ho : opAt l p = op) (hok : okOp op = true) (hr : r0 = ⟨l, p + 1, 0, 0⟩) (h1 : bad1 op (rBody op r0) = false) (hb : rBody op r0 = (r2, x, y, tx)) (ha : stA op r2 = (r3, A)) (hsb : stB op r3 = (r5, B)) (h2 : bad2 op A r5 = false)
    (hsr : rR op r5 = (r6, ref)) (h : ref ≠ 0) : (oneR l p).1 = 12 := by
  subst ho hr
  have e1 : stA (opAt l p) (rBody (opAt l p) ⟨l, p + 1, 0, 0⟩).1 = (r3, A) := by rw [hb]; exact ha
  have e2 : stB (opAt l p) (stA (opAt l p) (rBody (opAt l p) ⟨l, p + 1, 0, 0⟩).1).1 = (r5, B) := by rw [e1]; exact hsb
  have e3 : rR (opAt l p) (stB (opAt l p) (stA (opAt l p) (rBody (opAt l p) ⟨l, p + 1, 0, 0⟩).1).1).1 = (r6, ref) := by rw [e2]; exact hsr
  show (ite _ _ _ : Int × RS × IV).1 = 12
  rw [if_neg (by rw [hok]; simp), if_neg (by rw [h1]; simp), if_neg (by rw [e2, e1]; simp only; rw [h2]; simp), if_pos (by rw [e3]; exact h)]
theorem oneR_end (ho : opAt l p = op) (hok : okOp op = true) (hr : r0 = ⟨l, p + 1, 0, 0⟩) (h1 : bad1 op (rBody op r0) = false) (hb : rBody op r0 = (r2, x, y, tx)) (ha : stA op r2 = (r3, A)) (hsb : stB op r3 = (r5, B)) (h2 : bad2 op A r5 = false)
    (hsr : rR op r5 = (r6, ref)) (h : ref = 0) : oneR l p = (if (words r6 (rN op A).toNat).1.why = 0 then (0, (words r6 (rN op A).toNat).1, ⟨p, op, A, B, x, y, tx, (words r6 (rN op A).toNat).2.map (· + ((words r6 (rN op A).toNat).1.p : Int))⟩)
      else if (words r6 (rN op A).toNat).1.fin.1 = 12 ∨ (words r6 (rN op A).toNat).1.fin.1 = 3 then (12, (words r6 (rN op A).toNat).1, ivZ) else (10, (words r6 (rN op A).toNat).1, ivZ)) := by
  subst ho hr
  have e1 : stA (opAt l p) (rBody (opAt l p) ⟨l, p + 1, 0, 0⟩).1 = (r3, A) := by rw [hb]; exact ha
  have e2 : stB (opAt l p) (stA (opAt l p) (rBody (opAt l p) ⟨l, p + 1, 0, 0⟩).1).1 = (r5, B) := by rw [e1]; exact hsb
  have e3 : rR (opAt l p) (stB (opAt l p) (stA (opAt l p) (rBody (opAt l p) ⟨l, p + 1, 0, 0⟩).1).1).1 = (r6, ref) := by rw [e2]; exact hsr
  show (ite _ _ _ : Int × RS × IV) = _
  rw [if_neg (by rw [hok]; simp), if_neg (by rw [h1]; simp), if_neg (by rw [e2, e1]; simp only; rw [h2]; simp), if_neg (by rw [e3]; simp [h])]
  rw [e3, e2, e1, hb]
end
theorem word_stuck {r : RS} (h : r.why ≠ 0) : r.word.1 = r := by unfold RS.word RS.take; simp only [if_neg h]
theorem words_stuck {r : RS} {q : Nat} (h : (words r q).1.why ≠ 0) : ∀ n, q ≤ n → (words r n).1 = (words r q).1
  | 0, hn => by rw [show q = 0 by omega]
  | n + 1, hn => by
    by_cases e : q = n + 1
    · rw [e]
    · have ih := words_stuck h n (by omega)
      show (words r n).1.word.1 = _
      rw [ih, word_stuck h]
/-- The memory of hawserref13.One. -/
structure RW (w0 w : World) (k6 k9 a : Nat) (v vt : Value) (r : RS) (i : IV) : Prop where
  c6 : Row w k6 99 (ivZ.cells (.slice none 0 0))
  c9 : Row w k9 99 (i.cells vt)
  rf : Rf w a v r
  ow : w.ownsRow w0.heap.size 3 1 vt i.tos.length (intsV i.tos)
  h6 : w0.heap.size ≤ k6
  h9 : k6 < k9
  ha : k9 < a
  hv : ∀ j, v.ownBlock = some j → j < w0.heap.size
  ht : ∀ j, vt.ownBlock = some j → a < j
  upd : Upd (fun _ => False) w0 w
namespace RW
variable {w0 w w' w7 w8 : World} {k6 k9 a : Nat} {v vt : Value} {r r' : RS} {i : IV}
theorem read (h : RW w0 w k6 k9 a v vt r i) (hp : RfPost a v r' w w') : RW w0 w' k6 k9 a v vt r' i :=
  ⟨h.c6.upd hp.2 (fun e => by have := h.h9; have := h.ha; omega), h.c9.upd hp.2 (fun e => by have := h.ha; omega), hp.1,
   ownsRow_upd h.ow hp.2 (fun j hj e => by have := h.ht j hj; omega), h.h6, h.h9, h.ha, h.hv, h.ht, h.upd.trans hp.2 (fun j hj e => by have := h.h6; have := h.h9; have := h.ha; omega)⟩
theorem keep (h : RW w0 w k6 k9 a v vt r i) (hu : Upd (fun _ => False) w w') : RW w0 w' k6 k9 a v vt r i :=
  ⟨h.c6.upd hu (fun h => h), h.c9.upd hu (fun h => h), h.rf.upd hu (fun _ _ h => h), ownsRow_upd h.ow hu (fun _ _ h => h), h.h6, h.h9, h.ha, h.hv, h.ht, h.upd.trans' hu⟩
theorem drewN (h : RW w0 w k6 k9 a v vt r i) (n : Nat) : RW w0 (w.drewN n) k6 k9 a v vt r i := h.keep ((Upd.refl _ w).drewN n)
theorem field (h : RW w0 w k6 k9 a v vt r i) (j : Nat) (u : Value) (i' : IV) (hc : (i.cells vt).set j u = i'.cells vt) (ht : i'.tos = i.tos) : RW w0 (w.setCell ⟨k9, j, none⟩ u) k6 k9 a v vt r i' := by
  have hu : Upd (fun k => k = k9) w (w.setCell ⟨k9, j, none⟩ u) := (Upd.refl (fun k => k = k9) w).setCell (p := ⟨k9, j, none⟩) (fun _ => rfl) u
  refine ⟨h.c6.upd hu (fun e => by have := h.h9; omega), by rw [← hc]; exact h.c9.set j u, h.rf.upd hu (fun k hk e => ?_), ?_, h.h6, h.h9, h.ha, h.hv, h.ht, ?_⟩
  · subst e
    rcases hk with rfl | hk
    · have := h.ha; omega
    · have := h.hv _ hk; have := h.h6; have := h.h9; omega
  · rw [ht]; exact ownsRow_upd h.ow hu (fun k hk e => by have := h.ht k hk; have := h.ha; omega)
  · exact h.upd.trans hu (fun k hk e => by have := h.h6; have := h.h9; omega)
theorem push (h : RW w0 w7 k6 k9 a v vt r i) {o : Obj} {vt' : Value} {z : Int} (hg : (w7.alloc o).grownBy w8 vt.ownBlock) (ho : w8.ownsRow w0.heap.size 3 1 vt' (i.tos.length + 1) (intsV i.tos ++ [.int .i64 z]))
    (hn : ∀ k, vt'.ownBlock = some k → vt.ownBlock = some k ∨ (w7.alloc o).heap.size ≤ k) : RW w0 (w8.setCell ⟨k9, 6, none⟩ vt') k6 k9 a v vt' r { i with tos := i.tos ++ [z] } := by
  have hu : Upd (fun k => vt.ownBlock = some k) w7 w8 := (((Upd.refl _ w7).alloc o)).grown hg (fun _ h _ => h)
  have ha := h.rf.lt
  have ht' : ∀ j, vt'.ownBlock = some j → a < j := fun j hj => by
    rcases hn j hj with e | e
    · exact h.ht j e
    · rw [World.size_alloc] at e; omega
  have hu9 : Upd (fun k => k = k9) w8 (w8.setCell ⟨k9, 6, none⟩ vt') := (Upd.refl (fun k => k = k9) w8).setCell (p := ⟨k9, 6, none⟩) (fun _ => rfl) vt'
  have c9 : Row w8 k9 99 (i.cells vt) := h.c9.upd hu (fun e => by have := h.ht _ e; have := h.ha; omega)
  refine ⟨(h.c6.upd hu (fun e => by have := h.ht _ e; have := h.ha; have := h.h9; omega)).upd hu9 (fun e => by have := h.h9; omega), c9.set 6 vt',
    (h.rf.upd hu (fun k hk2 e => ?_)).upd hu9 (fun k hk2 e => ?_), ?_, h.h6, h.h9, h.ha, h.hv, ht', ?_⟩
  · rcases hk2 with rfl | hk2
    · have := h.ht _ e; omega
    · have := h.ht _ e; have := h.hv _ hk2; have := h.h6; have := h.h9; have := h.ha; omega
  · subst e
    rcases hk2 with rfl | hk2
    · have := h.ha; omega
    · have := h.hv _ hk2; have := h.h6; have := h.h9; omega
  · have : intsV (i.tos ++ [z]) = intsV i.tos ++ [.int .i64 z] := by rw [intsV_app]; rfl
    show World.ownsRow _ _ _ _ _ (i.tos ++ [z]).length (intsV (i.tos ++ [z]))
    rw [this, List.length_append]
    exact ownsRow_upd ho hu9 (fun k hk e => by have := ht' k hk; have := h.ha; omega)
  · exact (h.upd.trans hu (fun k hk e => by have := h.ht _ e; have := h.ha; have := h.h9; have := h.h6; omega)).trans hu9 (fun k hk e => by have := h.h9; have := h.h6; omega)
theorem place {g cap n : Nat} (h : RW w0 w k6 k9 a v (.slice (some ⟨g, 0, none⟩) n cap) r i) (q : Nat) (hq : q < i.tos.length) (z : Int) :
    RW w0 (w.setCell ⟨g, q, none⟩ (.int .i64 z)) k6 k9 a v (.slice (some ⟨g, 0, none⟩) n cap) r { i with tos := i.tos.set q z } := by
  have hg := h.ht g rfl
  have hu : Upd (fun k => k = g) w (w.setCell ⟨g, q, none⟩ (.int .i64 z)) := (Upd.refl (fun k => k = g) w).setCell (p := ⟨g, q, none⟩) (fun _ => rfl) _
  refine ⟨h.c6.upd hu (fun e => by have := h.ha; have := h.h9; omega), h.c9.upd hu (fun e => by have := h.ha; omega), h.rf.upd hu (fun k hk2 e => ?_), own_set h.ow q hq z, h.h6, h.h9, h.ha, h.hv, h.ht, ?_⟩
  · subst e
    rcases hk2 with rfl | hk2
    · omega
    · have := h.hv _ hk2; have := h.h6; have := h.h9; have := h.ha; omega
  · exact h.upd.trans hu (fun k hk e => by have := h.ha; have := h.h9; have := h.h6; omega)
theorem g1 (h : RW w0 w k6 k9 a v vt r i) : w.cell? ⟨k9, 1, none⟩ = some (.int .i64 i.op) := h.c9.get rfl
theorem g2 (h : RW w0 w k6 k9 a v vt r i) : w.cell? ⟨k9, 2, none⟩ = some (.int .i64 i.A) := h.c9.get rfl
theorem g3 (h : RW w0 w k6 k9 a v vt r i) : w.cell? ⟨k9, 3, none⟩ = some (.int .i64 i.B) := h.c9.get rfl
theorem g4 (h : RW w0 w k6 k9 a v vt r i) : w.cell? ⟨k9, 4, none⟩ = some (.complex .f64 (fl i.x) (fl i.y)) := h.c9.get rfl
theorem g5 (h : RW w0 w k6 k9 a v vt r i) : w.cell? ⟨k9, 5, none⟩ = some (.string (strOf i.text)) := h.c9.get rfl
theorem g6 (h : RW w0 w k6 k9 a v vt r i) : w.cell? ⟨k9, 6, none⟩ = some vt := h.c9.get rfl
theorem fz (h : RW w0 w k6 k9 a v vt r i) (j : Nat) : w.frozen? ⟨k9, j, none⟩ = false := h.c9.free j
end RW
def RP (l : List UInt8) (p : Nat) (w : World) (e : Ending) (w' : World) : Prop :=
  Upd (fun _ => False) w w' ∧
  (((oneR l p).1 = 0 ∧ ∃ vt, e = .returned (.tuple #[.agg ((oneR l p).2.2.cells vt).toArray, .int .i64 ((oneR l p).2.1.p : Int), .int .i64 0]) ∧ w'.ownsRow w.heap.size 3 1 vt (oneR l p).2.2.tos.length (intsV (oneR l p).2.2.tos)) ∨
   ((oneR l p).1 ≠ 0 ∧ e = .returned (.tuple #[.agg (ivZ.cells (.slice none 0 0)).toArray, .int .i64 0, .int .i64 (oneR l p).1])))
/-- An early refusal. -/
theorem RW.refused {w0 w : World} {k6 k9 a : Nat} {v vt : Value} {r : RS} {i : IV} {l : List UInt8} {p : Nat} {c : Int} (h : RW w0 w k6 k9 a v vt r i) (hc : (oneR l p).1 = c) (h0 : c ≠ 0) {w' : World} (hk : Upd (fun j => j = k6) w w') :
    RP l p w0 (.returned (.tuple #[.agg (ivZ.cells (.slice none 0 0)).toArray, .int .i64 0, .int .i64 c])) w' := by
  refine ⟨h.upd.trans hk (fun j hj e => by have := h.h6; omega), .inr ⟨by rw [hc]; exact h0, by rw [hc]⟩⟩
theorem size99 : (Try.prog.info? 99).map (·.size) = some 7 := by kernel_rfl
/-- How it begins. -/
theorem RW.start {w : World} {v : Value} {l : List UInt8} {p : Nat} (hb : Bytes w v l) (hl : l.length ≤ 2048) (hp : p < l.length) (op : Int) :
    RW w (((w.alloc (.cells #[.int .i64 0, .int .i64 0, .int .i64 0, .int .i64 0, .complex .f64 0 0, .string ⟨#[]⟩, .slice none 0 0] 99)).alloc (.cells #[.int .i64 p, .int .i64 op, .int .i64 0, .int .i64 0, .complex .f64 0 0, .string ⟨#[]⟩, .slice none 0 0] 99)).alloc (.cells #[v, .int .i64 ((p : Int) + 1), .bool false, .int .i64 0, .int .i64 0] 62))
      w.heap.size (w.heap.size + 1) (w.heap.size + 1 + 1) v (.slice none 0 0) ⟨l, p + 1, 0, 0⟩ ⟨p, op, 0, 0, 0, 0, [], []⟩ := by
  have hv : ∀ j, v.ownBlock = some j → j < w.heap.size := fun j hj => by
    obtain ⟨ao, cap, rfl, _, _, h⟩ := hb
    obtain ⟨b, off, rfl, hc⟩ := h.resolve_left (by intro e; rw [e] at hp; simp at hp)
    simp [Value.ownBlock] at hj
    subst hj
    exact World.block_lt_of_cell? _ _ (hc p hp)
  have u1 : Upd (fun _ => False) w (w.alloc (.cells #[.int .i64 0, .int .i64 0, .int .i64 0, .int .i64 0, .complex .f64 0 0, .string ⟨#[]⟩, .slice none 0 0] 99)) := (Upd.refl _ w).alloc _
  have hz := @heap_alloc_new w
  generalize hw1 : w.alloc (.cells #[.int .i64 0, .int .i64 0, .int .i64 0, .int .i64 0, .complex .f64 0 0, .string ⟨#[]⟩, .slice none 0 0] 99) = w1 at *
  have s1 : w1.heap.size = w.heap.size + 1 := by rw [← hw1, World.size_alloc]
  have c6 : Row w1 w.heap.size 99 (ivZ.cells (.slice none 0 0)) := by
    unfold Row; rw [show ivZ.cells (.slice none 0 0) = _ from zero_cells, ← hw1]; exact heap_alloc_new w _
  have u2 : Upd (fun _ => False) w1 (w1.alloc (.cells #[.int .i64 p, .int .i64 op, .int .i64 0, .int .i64 0, .complex .f64 0 0, .string ⟨#[]⟩, .slice none 0 0] 99)) := (Upd.refl _ w1).alloc _
  generalize hw2 : w1.alloc (.cells #[.int .i64 p, .int .i64 op, .int .i64 0, .int .i64 0, .complex .f64 0 0, .string ⟨#[]⟩, .slice none 0 0] 99) = w2 at *
  have s2 : w2.heap.size = w.heap.size + 1 + 1 := by rw [← hw2, World.size_alloc, s1]
  have c9 : Row w2 (w.heap.size + 1) 99 (IV.cells ⟨p, op, 0, 0, 0, 0, [], []⟩ (.slice none 0 0)) := by
    unfold Row IV.cells; rw [fl_zero, ← s1, ← hw2]; exact heap_alloc_new w1 _
  have u3 : Upd (fun _ => False) w2 (w2.alloc (.cells #[v, .int .i64 ((p : Int) + 1), .bool false, .int .i64 0, .int .i64 0] 62)) := (Upd.refl _ w2).alloc _
  have ca := heap_alloc_new w2 (.cells #[v, .int .i64 ((p : Int) + 1), .bool false, .int .i64 0, .int .i64 0] 62)
  generalize w2.alloc (.cells #[v, .int .i64 ((p : Int) + 1), .bool false, .int .i64 0, .int .i64 0] 62) = w3 at *
  rw [s2] at ca
  refine ⟨(c6.upd u2 (fun h => h)).upd u3 (fun h => h), c9.upd u3 (fun h => h), ⟨⟨_, 0, 0, ca, fun _ => (show (p : Int) + 1 = ((p + 1 : Nat) : Int) by omega), fun h => absurd rfl h⟩, ?_, ?_, by show p + 1 ≤ l.length; omega, by show l.length ≤ _; omega⟩, World.ownsRow_nil _ _ _ _, Nat.le_refl _, by omega, by omega, hv, fun j hj => by simp [Value.ownBlock] at hj, (u1.trans' u2).trans' u3⟩
  · exact Bytes_upd hb ((u1.trans' u2).trans' u3) (fun _ _ h => h)
  · right; intro e; have := hv _ e; omega
end Go.Proofs.Ytbpeoclhabgcgaa
