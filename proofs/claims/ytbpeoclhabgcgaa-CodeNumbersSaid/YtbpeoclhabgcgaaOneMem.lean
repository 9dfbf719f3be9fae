import Derived.Test.YtbpeoclhabgcgaaRdf
/-
  WORDS ON AN INSTRUCTION THAT IS BEING READ: the plain reading (oneS); the memory of code.One.
-/
namespace Go.Proofs.Ytbpeoclhabgcgaa
open Go.RowKit
set_option linter.unusedVariables false
set_option linter.unusedSimpArgs false
@[go_sem] theorem run_store_complex (P : Program) (w : World) (a : Addr) (m : Mode) (k : FloatKind) (x y : Nat) : (store a (.complex k x y) m).run P w = stored P w a (.complex k x y) m := run_store P w a _ m rfl
/-- An instruction. -/
structure IV where
  at_ : Int
  op : Int
  A : Int
  B : Int
  x : Int
  y : Int
  text : List UInt8
  tos : List Int
/-- Its cells. -/
def IV.cells (i : IV) (vt : Value) : List Value := [.int .i64 i.at_, .int .i64 i.op, .int .i64 i.A, .int .i64 i.B, .complex .f64 (fl i.x) (fl i.y), .string (strOf i.text), vt]
def cBody (op : Int) (r : RS) : RS × Int × Int × List UInt8 :=
  if op = 1 then (r.signed.1.signed.1.form (fits r.signed.2 && fits r.signed.1.signed.2), r.signed.2, r.signed.1.signed.2, [])
  else if op = 2 then ((r.text 200).1, 0, 0, (r.text 200).2) else (r, 0, 0, [])
def stA (op : Int) (r : RS) : RS × Int := if asksA op then r.byte else (r, 0)
def stN (op A : Int) (r : RS) : RS × Int := if asksN op < 0 then (r.form (decide (1 ≤ A) && decide (A ≤ 6)), min A 6) else (r, asksN op)
def stB (op : Int) (r : RS) : RS × Int := if asksB op then r.byte else (r, 0)
def stR (op : Int) (r : RS) : RS × Int := if takesB op then (r.word.1.form (decide (r.word.2 = 0)), r.word.2) else (r, 0)
def words (r : RS) : Nat → RS × List Int
  | 0 => (r, [])
  | n + 1 => ((words r n).1.word.1, (words r n).2 ++ [(words r n).1.word.2])
def okOp (op : Int) : Bool := decide (1 ≤ op) && decide (op ≤ 15)
theorem signed_range (r : RS) : r.signed.2.natAbs ≤ 9223372036854775808 := by
  have := r.number_lt maxU
  unfold RS.signed unzig
  simp only
  split <;> omega
theorem byte_range (r : RS) : 0 ≤ r.byte.2 ∧ r.byte.2 < 256 := by
  unfold RS.byte
  rcases took1 r with h | ⟨b, h⟩
  · simp only [h, headI]; omega
  · simp only [h, headI]; have := b.toNat_lt; omega
theorem word_range (r : RS) : 0 ≤ r.word.2 ∧ r.word.2 < 65536 := by
  unfold RS.word
  rcases took2 r with h | ⟨a, b, h⟩
  · simp only [h, wordI]; omega
  · simp only [h, wordI]; have := b.toNat_lt; have := a.toNat_lt; omega
theorem words_len (r : RS) : ∀ n, (words r n).2.length = n
  | 0 => rfl
  | n + 1 => by simp [words, words_len r n]
theorem words_range (r : RS) : ∀ n, ∀ x ∈ (words r n).2, 0 ≤ x ∧ x < 65536
  | 0 => by simp [words]
  | n + 1 => by
    intro x hx
    simp only [words, List.mem_append, List.mem_singleton] at hx
    rcases hx with hx | rfl
    · exact words_range r n x hx
    · exact word_range _
theorem stN_range (op A : Int) (r : RS) (h : 0 ≤ A) : 0 ≤ (stN op A r).2 ∧ (stN op A r).2 ≤ 6 := by
  have key : asksN op = 1 ∨ asksN op = -1 ∨ asksN op = 0 := by
    unfold asksN
    by_cases h1 : op = 5 ∨ op = 6
    · rw [if_pos h1]; simp
    · rw [if_neg h1]
      by_cases h2 : op = 10
      · rw [if_pos h2]; simp
      · rw [if_neg h2]; simp
  unfold stN
  by_cases hn : asksN op < 0
  · rw [if_pos hn]
    show 0 ≤ min A 6 ∧ min A 6 ≤ 6
    omega
  · rw [if_neg hn]
    show 0 ≤ asksN op ∧ asksN op ≤ 6
    omega
def intsV (l : List Int) : List Value := l.map (Value.int .i64)
theorem intsV_app (a b : List Int) : intsV (a ++ b) = intsV a ++ intsV b := by simp [intsV]
theorem intsV_get (l : List Int) (i : Nat) (h : i < l.length) : (intsV l)[i]? = some (.int .i64 l[i]) := by simp [intsV, h]
/-- Cells of a block. -/
def Row (w : World) (k : Nat) (e : TypeId) (cs : List Value) : Prop := w.heap[k]? = some (.cells cs.toArray e (0, 0))
theorem Row.lt {w : World} {k : Nat} {e : TypeId} {cs : List Value} (h : Row w k e cs) : k < w.heap.size := (Array.getElem?_eq_some_iff.1 h).1
theorem Row.upd {S : Nat → Prop} {w w' : World} {k : Nat} {e : TypeId} {cs : List Value} (h : Row w k e cs) (hu : Upd S w w') (hk : ¬ S k) : Row w' k e cs := hu.heap_some h hk
theorem Row.get {w : World} {k : Nat} {e : TypeId} {cs : List Value} (h : Row w k e cs) {i : Nat} {u : Value} (hi : cs[i]? = some u) : w.cell? ⟨k, i, none⟩ = some u := by
  rw [cell_of_row w k i _ e (0, 0) h]; simpa using hi
theorem Row.free {w : World} {k : Nat} {e : TypeId} {cs : List Value} (h : Row w k e cs) (i : Nat) : w.frozen? ⟨k, i, none⟩ = false := frozen_of_row w k i _ e h
theorem Row.set {w : World} {k : Nat} {e : TypeId} {cs : List Value} (h : Row w k e cs) (i : Nat) (u : Value) : Row (w.setCell ⟨k, i, none⟩ u) k e (cs.set i u) := by
  unfold Row
  rw [heap_setCell_same w k i _ e u h]
  simp
/-- The memory of code.One. -/
structure OW (w0 w : World) (k4 k8 k9 a : Nat) (vs vt : Value) (r : RS) (i : IV) : Prop where
  c4 : Row w k4 83 (IV.cells ⟨0, 0, 0, 0, 0, 0, [], []⟩ (.slice none 0 0))
  c8 : CR w k8 a
  c9 : Row w k9 83 (i.cells vt)
  rd : Rd w a vs r
  ow : w.ownsRow w0.heap.size 3 1 vt i.tos.length (intsV i.tos)
  h4 : w0.heap.size ≤ k4
  ha : k4 < a ∧ a < k8
  hv : ∀ j, vs.ownBlock = some j → k4 < j ∧ j < k8
  h8 : k8 < k9
  ht : ∀ j, vt.ownBlock = some j → k9 < j
  upd : Upd (fun _ => False) w0 w
namespace OW
variable {w0 w w' : World} {k4 k8 k9 a : Nat} {vs vt : Value} {r r' : RS} {i : IV}
/-- A method of the reader. -/
theorem read (h : OW w0 w k4 k8 k9 a vs vt r i) (hp : RdPost a vs r' w w') : OW w0 w' k4 k8 k9 a vs vt r' i :=
  ⟨h.c4.upd hp.2 (fun e => by have := h.ha; omega), h.c8.upd hp.2 (fun e => by have := h.ha; omega), h.c9.upd hp.2 (fun e => by have := h.ha; have := h.h8; omega), hp.1,
   ownsRow_upd h.ow hp.2 (fun j hj e => by have := h.ht j hj; have := h.ha; have := h.h8; omega), h.h4, h.ha, h.hv, h.h8, h.ht,
   h.upd.trans hp.2 (fun j hj e => by have := h.ha; have := h.h4; omega)⟩
/-- Nothing of it is written. -/
theorem keep (h : OW w0 w k4 k8 k9 a vs vt r i) (hu : Upd (fun _ => False) w w') : OW w0 w' k4 k8 k9 a vs vt r i :=
  ⟨h.c4.upd hu (fun h => h), h.c8.upd hu (fun h => h), h.c9.upd hu (fun h => h), h.rd.upd hu (fun _ _ _ h => h), ownsRow_upd h.ow hu (fun _ _ h => h), h.h4, h.ha, h.hv, h.h8, h.ht, h.upd.trans' hu⟩
theorem drewN (h : OW w0 w k4 k8 k9 a vs vt r i) (n : Nat) : OW w0 (w.drewN n) k4 k8 k9 a vs vt r i := h.keep ((Upd.refl _ w).drewN n)
/-- A field is set. -/
theorem field (h : OW w0 w k4 k8 k9 a vs vt r i) (j : Nat) (u : Value) (i' : IV) (hc : (i.cells vt).set j u = i'.cells vt) (ht : i'.tos = i.tos) : OW w0 (w.setCell ⟨k9, j, none⟩ u) k4 k8 k9 a vs vt r i' := by
  have hu : Upd (fun k => k = k9) w (w.setCell ⟨k9, j, none⟩ u) := (Upd.refl (fun k => k = k9) w).setCell (p := ⟨k9, j, none⟩) (fun _ => rfl) u
  refine ⟨h.c4.upd hu (fun e => by have := h.ha; have := h.h8; omega), h.c8.upd hu (fun e => by have := h.h8; omega), ?_, h.rd.upd hu (fun k _ hk e => ?_), ?_, h.h4, h.ha, h.hv, h.h8, h.ht, ?_⟩
  · rw [← hc]; exact h.c9.set j u
  · subst e
    rcases hk with rfl | hk
    · have := h.ha; have := h.h8; omega
    · have := h.hv _ hk; have := h.h8; omega
  · rw [ht]; exact ownsRow_upd h.ow hu (fun k hk e => by have := h.ht k hk; omega)
  · exact h.upd.trans hu (fun k hk e => by have := h.ha; have := h.h8; have := h.h4; omega)
theorem g1 (h : OW w0 w k4 k8 k9 a vs vt r i) : w.cell? ⟨k9, 1, none⟩ = some (.int .i64 i.op) := h.c9.get rfl
theorem g2 (h : OW w0 w k4 k8 k9 a vs vt r i) : w.cell? ⟨k9, 2, none⟩ = some (.int .i64 i.A) := h.c9.get rfl
theorem g4 (h : OW w0 w k4 k8 k9 a vs vt r i) : w.cell? ⟨k9, 4, none⟩ = some (.complex .f64 (fl i.x) (fl i.y)) := h.c9.get rfl
theorem g3 (h : OW w0 w k4 k8 k9 a vs vt r i) : w.cell? ⟨k9, 3, none⟩ = some (.int .i64 i.B) := h.c9.get rfl
theorem g5 (h : OW w0 w k4 k8 k9 a vs vt r i) : w.cell? ⟨k9, 5, none⟩ = some (.string (strOf i.text)) := h.c9.get rfl
theorem g6 (h : OW w0 w k4 k8 k9 a vs vt r i) : w.cell? ⟨k9, 6, none⟩ = some vt := h.c9.get rfl
theorem g8 (h : OW w0 w k4 k8 k9 a vs vt r i) : w.cell? ⟨k8, 0, none⟩ = some (.pointer (some ⟨a, 0, none⟩)) := h.c8.get
theorem fz (h : OW w0 w k4 k8 k9 a vs vt r i) (j : Nat) : w.frozen? ⟨k9, j, none⟩ = false := h.c9.free j
end OW
theorem own_form {w : World} {base : Nat} {e : TypeId} {size : Nat} {v : Value} {n : Nat} {xs : List Value} (h : w.ownsRow base e size v n xs) : ∃ ao cap, v = .slice ao n cap ∧ n ≤ cap ∧ cap ≤ maxLen ∧ (0 < n → ∃ g, ao = some ⟨g, 0, none⟩) := by
  rcases h.2 with ⟨rfl, hn⟩ | ⟨g, cap, cur, rfl, _, _, hn, hm, _⟩
  · exact ⟨none, 0, by rw [hn], by omega, by unfold maxLen; omega, fun h => by omega⟩
  · exact ⟨_, _, rfl, hn, hm, fun _ => ⟨g, rfl⟩⟩
theorem Try.info3 : (Try.prog.info? 3).map (fun i => (i.zero, i.size, i.bytes)) = some (some (.int .i64 0), 1, 8) := by kernel_rfl
theorem intsV_len (l : List Int) : (intsV l).length = l.length := by simp [intsV]
/-- A number read out of a slice of the call's own. -/
theorem own_int {w : World} {base : Nat} {g cap n : Nat} {l : List Int} (h : w.ownsRow base 3 1 (.slice (some ⟨g, 0, none⟩) n cap) l.length (intsV l)) (i : Nat) (hi : i < l.length) : w.cell? ⟨g, i, none⟩ = some (.int .i64 l[i]) := by
  rcases h.2 with ⟨hv, _⟩ | ⟨g', cap', cur, hv, _, hg, hn, hm, hs, ht⟩
  · cases hv
  · simp only [Value.slice.injEq, Option.some.injEq, Addr.mk.injEq] at hv
    obtain ⟨⟨rfl, _⟩, _, rfl⟩ := hv
    rw [cell_of_row w g i cur 3 (0, 0) hg]
    have := intsV_get l i hi
    rw [← ht, List.getElem?_take] at this
    split at this
    · simpa using this
    · cases this
theorem own_int' {w : World} {base : Nat} {g cap n : Nat} {l : List Int} (h : w.ownsRow base 3 1 (.slice (some ⟨g, 0, none⟩) n cap) l.length (intsV l)) {i : Nat} {z : Int} (hi : l[i]? = some z) : w.cell? ⟨g, i, none⟩ = some (.int .i64 z) := by
  obtain ⟨hl, rfl⟩ := List.getElem?_eq_some_iff.1 hi
  exact own_int h i hl
theorem Row.range {w : World} {k : Nat} {e : TypeId} {cs : List Value} (h : Row w k e cs) : w.rangeAt k 0 cs := fun j v hv => by rw [Nat.zero_add]; exact h.get hv
theorem own_free {w : World} {base : Nat} {g cap n : Nat} {l : List Int} (h : w.ownsRow base 3 1 (.slice (some ⟨g, 0, none⟩) n cap) l.length (intsV l)) (i : Nat) : w.frozen? ⟨g, i, none⟩ = false := by
  rcases h.2 with ⟨hv, _⟩ | ⟨g', cap', cur, hv, _, hg, hn, hm, hs, ht⟩
  · cases hv
  · simp only [Value.slice.injEq, Option.some.injEq, Addr.mk.injEq] at hv
    obtain ⟨⟨rfl, _⟩, _, rfl⟩ := hv
    exact frozen_of_row w g i cur 3 hg
/-- .. and stored there. -/
theorem own_set {w : World} {base : Nat} {g cap n : Nat} {l : List Int} (h : w.ownsRow base 3 1 (.slice (some ⟨g, 0, none⟩) n cap) l.length (intsV l)) (i : Nat) (hi : i < l.length) (z : Int) :
    (w.setCell ⟨g, i, none⟩ (.int .i64 z)).ownsRow base 3 1 (.slice (some ⟨g, 0, none⟩) n cap) (l.set i z).length (intsV (l.set i z)) := by
  rcases h.2 with ⟨hv, _⟩ | ⟨g', cap', cur, hv, hb, hg, hn, hm, hs, ht⟩
  · cases hv
  · simp only [Value.slice.injEq, Option.some.injEq, Addr.mk.injEq] at hv
    obtain ⟨⟨rfl, _⟩, hnn, rfl⟩ := hv
    refine ⟨by simp [intsV], .inr ⟨g, cap, cur.setIfInBounds i (.int .i64 z), by rw [List.length_set, hnn], hb, ?_, by rw [List.length_set]; exact hn, hm, by simpa using hs, ?_⟩⟩
    · rw [heap_setCell_same w g i _ 3 _ hg]
    · rw [List.length_set, Array.toList_setIfInBounds, List.take_set, ht]
      simp [intsV, List.map_set]
theorem ints_src {P : Program} {tx : TypeId} (ht : P.underlying tx = some (.slice 3)) {w : World} (z : Int) : Src P 1 tx (.slice (some ⟨w.heap.size, 0, none⟩) 1 1) 1 [.int .i64 z] (w.alloc (.cells #[.int .i64 z] 3)) :=
  Src.ofSlice (P := P) (size := 1) (tx := tx) (e' := 3) (w := w.alloc (.cells #[.int .i64 z] 3)) ht ⟨w.heap.size, 0, none⟩ 1 1 [.int .i64 z] rfl (World.news_of_block (heap_alloc_new w _)) (by simp [Value.oneCell'])
namespace OW
variable {w0 w w' w7 w8 : World} {k4 k8 k9 a : Nat} {vs vt : Value} {r r' : RS} {i : IV}
/-- A place is appended. -/
theorem push (h : OW w0 w7 k4 k8 k9 a vs vt r i) {o : Obj} {vt' : Value} {z : Int} (hg : (w7.alloc o).grownBy w8 vt.ownBlock) (ho : w8.ownsRow w0.heap.size 3 1 vt' (i.tos.length + 1) (intsV i.tos ++ [.int .i64 z]))
    (hn : ∀ k, vt'.ownBlock = some k → vt.ownBlock = some k ∨ (w7.alloc o).heap.size ≤ k) : OW w0 (w8.setCell ⟨k9, 6, none⟩ vt') k4 k8 k9 a vs vt' r { i with tos := i.tos ++ [z] } := by
  have hu : Upd (fun k => vt.ownBlock = some k) w7 w8 := (((Upd.refl _ w7).alloc o)).grown hg (fun _ h _ => h)
  have h9 := h.c9.lt
  have ht' : ∀ j, vt'.ownBlock = some j → k9 < j := fun j hj => by
    rcases hn j hj with e | e
    · exact h.ht j e
    · rw [World.size_alloc] at e; omega
  have hu9 : Upd (fun k => k = k9) w8 (w8.setCell ⟨k9, 6, none⟩ vt') := (Upd.refl (fun k => k = k9) w8).setCell (p := ⟨k9, 6, none⟩) (fun _ => rfl) vt'
  have c9 : Row w8 k9 83 (i.cells vt) := h.c9.upd hu (fun e => by have := h.ht _ e; omega)
  refine ⟨(h.c4.upd hu (fun e => by have := h.ht _ e; have := h.ha; have := h.h8; omega)).upd hu9 (fun e => by have := h.ha; have := h.h8; omega),
    (h.c8.upd hu (fun e => by have := h.ht _ e; have := h.h8; omega)).upd hu9 (fun e => by have := h.h8; omega), c9.set 6 vt',
    (h.rd.upd hu (fun k hk hk2 e => ?_)).upd hu9 (fun k hk hk2 e => ?_), ?_, h.h4, h.ha, h.hv, h.h8, ht', ?_⟩
  · rcases hk2 with rfl | hk2
    · have := h.ht _ e; have := h.ha; have := h.h8; omega
    · have := h.ht _ e; have := h.hv _ hk2; have := h.h8; omega
  · subst e
    rcases hk2 with rfl | hk2
    · have := h.ha; have := h.h8; omega
    · have := h.hv _ hk2; have := h.h8; omega
  · have : intsV (i.tos ++ [z]) = intsV i.tos ++ [.int .i64 z] := by rw [intsV_app]; rfl
    show World.ownsRow _ _ _ _ _ (i.tos ++ [z]).length (intsV (i.tos ++ [z]))
    rw [this, List.length_append]
    exact ownsRow_upd ho hu9 (fun k hk e => by have := ht' k hk; omega)
  · exact (h.upd.trans hu (fun k hk e => by have := h.ht _ e; have := h.ha; have := h.h8; have := h.h4; omega)).trans hu9 (fun k hk e => by have := h.ha; have := h.h8; have := h.h4; omega)
/-- A place is changed. -/
theorem place {g cap n : Nat} (h : OW w0 w k4 k8 k9 a vs (.slice (some ⟨g, 0, none⟩) n cap) r i) (q : Nat) (hq : q < i.tos.length) (z : Int) :
    OW w0 (w.setCell ⟨g, q, none⟩ (.int .i64 z)) k4 k8 k9 a vs (.slice (some ⟨g, 0, none⟩) n cap) r { i with tos := i.tos.set q z } := by
  have hg := h.ht g rfl
  have hu : Upd (fun k => k = g) w (w.setCell ⟨g, q, none⟩ (.int .i64 z)) := (Upd.refl (fun k => k = g) w).setCell (p := ⟨g, q, none⟩) (fun _ => rfl) _
  refine ⟨h.c4.upd hu (fun e => by have := h.ha; have := h.h8; omega), h.c8.upd hu (fun e => by have := h.h8; omega), h.c9.upd hu (fun e => by omega), h.rd.upd hu (fun k hk hk2 e => ?_), own_set h.ow q hq z, h.h4, h.ha, h.hv, h.h8, h.ht, ?_⟩
  · subst e
    rcases hk2 with rfl | hk2
    · have := h.ha; have := h.h8; omega
    · have := h.hv _ hk2; have := h.h8; omega
  · exact h.upd.trans hu (fun k hk e => by have := h.ha; have := h.h8; have := h.h4; omega)
end OW
theorem results_cell3 {fn : Func} {t u v x : Tmp} {ty : TypeId} (h : fn.results = #[.cell t ty, .tmp u, .tmp v, .tmp x]) {tmps : Array Value} {P : Program} {w : World} {k : Nat} {e : TypeId} {cs : List Value} {d : TypeDesc}
    (ht : tmps.getD t undef = .pointer (some ⟨k, 0, none⟩)) (hc : Row w k e cs) (hu : P.underlying ty = some d) (hd : d.isRow = true) (hi : (P.info? ty).map (·.size) = some cs.length) :
    (results fn tmps).run P w = .ok (.tuple #[.agg cs.toArray, tmps.getD u undef, tmps.getD v undef, tmps.getD x undef]) w := by
  have hl := run_loadVar_mid (P := P) w k 0 ty cs d (fun j v hv => by rw [Nat.zero_add]; exact hc.get hv) hu hd hi
  simp only [results, h]
  have ht2 : tmps[t]?.getD undef = .pointer (some ⟨k, 0, none⟩) := by simpa [Array.getD_eq_getD_getElem?] using ht
  simp [Sem.run_bind, ht2, asAddr, hl]
theorem results_cell2 {fn : Func} {t u v : Tmp} {ty : TypeId} (h : fn.results = #[.cell t ty, .tmp u, .tmp v]) {tmps : Array Value} {P : Program} {w : World} {k : Nat} {e : TypeId} {cs : List Value} {d : TypeDesc}
    (ht : tmps.getD t undef = .pointer (some ⟨k, 0, none⟩)) (hc : Row w k e cs) (hu : P.underlying ty = some d) (hd : d.isRow = true) (hi : (P.info? ty).map (·.size) = some cs.length) :
    (results fn tmps).run P w = .ok (.tuple #[.agg cs.toArray, tmps.getD u undef, tmps.getD v undef]) w := by
  have hl := run_loadVar_mid (P := P) w k 0 ty cs d (fun j v hv => by rw [Nat.zero_add]; exact hc.get hv) hu hd hi
  simp only [results, h]
  have ht2 : tmps[t]?.getD undef = .pointer (some ⟨k, 0, none⟩) := by simpa [Array.getD_eq_getD_getElem?] using ht
  simp [Sem.run_bind, ht2, asAddr, hl]
theorem store7 {w : World} {k : Nat} {e : TypeId} {old : List Value} (h : Row w k e old) (hl : old.length = 7) (cs : List Value) (u0 u1 u2 u3 u4 u5 u6 : Value) (hc : cs = [u0, u1, u2, u3, u4, u5, u6]) :
    Row (((((((w.setCell ⟨k, 0, none⟩ u0).setCell ⟨k, 1, none⟩ u1).setCell ⟨k, 2, none⟩ u2).setCell ⟨k, 3, none⟩ u3).setCell ⟨k, 4, none⟩ u4).setCell ⟨k, 5, none⟩ u5).setCell ⟨k, 6, none⟩ u6) k e cs ∧
    Upd (fun j => j = k) w (((((((w.setCell ⟨k, 0, none⟩ u0).setCell ⟨k, 1, none⟩ u1).setCell ⟨k, 2, none⟩ u2).setCell ⟨k, 3, none⟩ u3).setCell ⟨k, 4, none⟩ u4).setCell ⟨k, 5, none⟩ u5).setCell ⟨k, 6, none⟩ u6) := by
  constructor
  · have := ((((((h.set 0 u0).set 1 u1).set 2 u2).set 3 u3).set 4 u4).set 5 u5).set 6 u6
    rw [hc]
    match old, hl with
    | [_, _, _, _, _, _, _], _ => exact this
  · have st : ∀ (a : World) (i : Nat) (u : Value), Upd (fun j => j = k) w a → Upd (fun j => j = k) w (a.setCell ⟨k, i, none⟩ u) := fun a i u ha => ha.setCell (p := ⟨k, i, none⟩) (fun _ => rfl) u
    exact st _ 6 _ (st _ 5 _ (st _ 4 _ (st _ 3 _ (st _ 2 _ (st _ 1 _ (st _ 0 _ (Upd.refl _ w)))))))
theorem size83 : (Try.prog.info? 83).map (·.size) = some 7 := by kernel_rfl
/-- The places, the first q of them moved on. -/
def shift (l : List Int) (z : Int) (q : Nat) : List Int := (l.take q).map (· + z) ++ l.drop q
theorem shift_len (l : List Int) (z : Int) (q : Nat) : (shift l z q).length = l.length := by simp [shift]; omega
theorem shift_zero (l : List Int) (z : Int) : shift l z 0 = l := by simp [shift]
theorem shift_full (l : List Int) (z : Int) : shift l z l.length = l.map (· + z) := by simp [shift]
theorem shift_get {l : List Int} {z : Int} {q : Nat} (h : q < l.length) : (shift l z q)[q]? = some l[q] := by
  unfold shift
  rw [List.getElem?_append_right (by simp; omega)]
  simp [Nat.min_eq_left (Nat.le_of_lt h), h]
theorem shift_set {l : List Int} {z : Int} {q : Nat} (h : q < l.length) : (shift l z q).set q (l[q] + z) = shift l z (q + 1) := by
  unfold shift
  have hl : ((l.take q).map (· + z)).length = q := by simp; omega
  rw [List.set_append_right _ _ (by omega), hl, Nat.sub_self, List.drop_eq_getElem_cons h, List.set_cons_zero, List.take_add_one, List.getElem?_eq_getElem h, List.map_append, List.append_assoc]
  rfl
/-- Where the reader's bytes are. -/
theorem byte_l (r : RS) : r.byte.1.l = r.l := RS.take_l _ _
theorem word_l (r : RS) : r.word.1.l = r.l := RS.take_l _ _
theorem form_l (r : RS) (b : Bool) : (r.form b).l = r.l := by unfold RS.form; split; rfl; exact RS.refuse_l _ _ _
theorem body_l (op : Int) (r : RS) : (cBody op r).1.l = r.l := by
  unfold cBody
  split
  · exact (form_l _ _).trans ((RS.signed_l _).trans (RS.signed_l _))
  · split
    · exact RS.text_l _ _
    · rfl
theorem stA_l (op : Int) (r : RS) : (stA op r).1.l = r.l := by unfold stA; split; exact byte_l _; rfl
theorem stN_l (op A : Int) (r : RS) : (stN op A r).1.l = r.l := by unfold stN; split; exact form_l _ _; rfl
theorem stB_l (op : Int) (r : RS) : (stB op r).1.l = r.l := by unfold stB; split; exact byte_l _; rfl
theorem stR_l (op : Int) (r : RS) : (stR op r).1.l = r.l := by unfold stR; split; exact (form_l _ _).trans (word_l _); rfl
theorem words_l (r : RS) : ∀ n, (words r n).1.l = r.l
  | 0 => rfl
  | n + 1 => (word_l _).trans (words_l r n)
/-- What is read: the reader's state then, the instruction (its places yet from its end), its reference. -/
def oneC (s : List UInt8) : RS × IV × Int :=
  let r0 := RS.byte ⟨s, 0, 0, 0⟩
  let cb := cBody r0.2 (r0.1.form (okOp r0.2))
  let sa := stA r0.2 cb.1
  let sn := stN r0.2 sa.2 sa.1
  let sb := stB r0.2 sn.1
  let sr := stR r0.2 sb.1
  let ws := words sr.1 sn.2.toNat
  (ws.1, ⟨0, r0.2, sa.2, sb.2, cb.2.1, cb.2.2.1, cb.2.2.2, ws.2⟩, sr.2)
theorem zero_cells : IV.cells ⟨0, 0, 0, 0, 0, 0, [], []⟩ (.slice none 0 0) = [.int .i64 0, .int .i64 0, .int .i64 0, .int .i64 0, .complex .f64 0 0, .string ⟨#[]⟩, .slice none 0 0] := by
  unfold IV.cells; rw [fl_zero]; rfl
def ivZ : IV := ⟨0, 0, 0, 0, 0, 0, [], []⟩
/-- How many bytes an instruction is long. -/
def sizeC (s : List UInt8) : Int := (s.length : Int) - (oneC s).1.left
/-- What code.One answers. -/
def OneP (s : List UInt8) (w : World) (e : Ending) (w' : World) : Prop :=
  Upd (fun _ => False) w w' ∧
  (((oneC s).1.fin.1 = 0 ∨ (oneC s).1.fin.1 = 11) ∧ (∃ vt, e = .returned (.tuple #[.agg (({ (oneC s).2.1 with tos := (oneC s).2.1.tos.map (· + sizeC s) } : IV).cells vt).toArray, .int .i64 (sizeC s), .int .i64 (oneC s).2.2, .int .i64 0]) ∧
      w'.ownsRow w.heap.size 3 1 vt ((oneC s).2.1.tos.map (· + sizeC s)).length (intsV ((oneC s).2.1.tos.map (· + sizeC s)))) ∨
   (¬ ((oneC s).1.fin.1 = 0 ∨ (oneC s).1.fin.1 = 11) ∧ e = .returned (.tuple #[.agg (ivZ.cells (.slice none 0 0)).toArray, .int .i64 0, .int .i64 0, .int .i64 (if (oneC s).1.fin.1 = 10 then 10 else 12)])))
/-- How it begins. -/
theorem OW.start {w w1 w2 : World} {a : Nat} {vs : Value} {s : List UInt8} (hb1 : w.heap.size + 1 ≤ a) (hb2 : ∀ j, vs.ownBlock = some j → w.heap.size + 1 ≤ j)
    (hu : Upd (fun _ => False) (w.alloc (.cells #[.int .i64 0, .int .i64 0, .int .i64 0, .int .i64 0, .complex .f64 0 0, .string ⟨#[]⟩, .slice none 0 0] 83)) w1) (hr : Rd w1 a vs ⟨s, 0, 0, 0⟩)
    (hp : RdPost a vs (RS.byte ⟨s, 0, 0, 0⟩).1 (w1.alloc (.cells #[.pointer (some ⟨a, 0, none⟩), .bool false] 108)) w2) (op : Int) :
    OW w (w2.alloc (.cells #[.int .i64 0, .int .i64 op, .int .i64 0, .int .i64 0, .complex .f64 0 0, .string ⟨#[]⟩, .slice none 0 0] 83)) w.heap.size w1.heap.size w2.heap.size a vs (.slice none 0 0) (RS.byte ⟨s, 0, 0, 0⟩).1 ⟨0, op, 0, 0, 0, 0, [], []⟩ := by
  have ha := hr.lt
  have hv := fun j hj => (hr.own.lt j hj).2
  have hz : w1.heap.size + 1 ≤ w2.heap.size := by have := hp.2.size; rwa [World.size_alloc] at this
  have hz0 : w.heap.size + 1 ≤ w1.heap.size := by have := hu.size; rwa [World.size_alloc] at this
  have a2 : Upd (fun _ => False) w2 (w2.alloc (.cells #[.int .i64 0, .int .i64 op, .int .i64 0, .int .i64 0, .complex .f64 0 0, .string ⟨#[]⟩, .slice none 0 0] 83)) := (Upd.refl _ w2).alloc _
  have a1 : Upd (fun _ => False) w1 (w1.alloc (.cells #[.pointer (some ⟨a, 0, none⟩), .bool false] 108)) := (Upd.refl _ w1).alloc _
  have hc : Row (w.alloc (.cells #[.int .i64 0, .int .i64 0, .int .i64 0, .int .i64 0, .complex .f64 0 0, .string ⟨#[]⟩, .slice none 0 0] 83)) w.heap.size 83 (IV.cells ⟨0, 0, 0, 0, 0, 0, [], []⟩ (.slice none 0 0)) := by
    unfold Row IV.cells
    rw [fl_zero]
    exact heap_alloc_new w _
  refine ⟨?_, ?_, ?_, ?_, World.ownsRow_nil _ _ _ _, Nat.le_refl _, ⟨by omega, ha⟩, fun j hj => ⟨by have := hb2 j hj; omega, hv j hj⟩, by omega, fun j hj => by simp [Value.ownBlock] at hj, ?_⟩
  · exact (((hc.upd hu (fun h => h)).upd a1 (fun h => h)).upd hp.2 (fun e => by omega)).upd a2 (fun h => h)
  · exact (CR.upd (CR.upd (show CR (w1.alloc _) w1.heap.size a from heap_alloc_new w1 _) hp.2 (fun e => by omega)) a2 (fun h => h))
  · unfold Row IV.cells
    rw [fl_zero]
    exact heap_alloc_new w2 _
  · exact hp.1.upd a2 (fun _ _ _ h => h)
  · exact ((((Upd.refl (fun _ => False) w).alloc _).trans' hu).trans' a1).trans hp.2 (fun j hj e => by omega) |>.trans' a2
end Go.Proofs.Ytbpeoclhabgcgaa
