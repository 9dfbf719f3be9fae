import Derived.Test.YtbpeoclhabgcgaaInstList
import Derived.Test.YtbpeoclhabgcgaaStoreZ
/-
  WORDS FOR THE TWO DECODERS: an instruction stored in a block of its own, pushed behind a list; what holds of every run of instructions.
-/
namespace Go.Proofs.Ytbpeoclhabgcgaa
open Go.RowKit
set_option linter.unusedVariables false
set_option linter.unusedSimpArgs false
theorem info83 : (Try.prog.info? 83).map (fun i => (i.zero, i.size, i.bytes)) = some (some (Value.agg #[.int .i64 0, .int .i64 0, .int .i64 0, .int .i64 0, .complex .f64 0 0, .string ⟨#[]⟩, .slice none 0 0]), 7, 88) := by kernel_rfl
theorem info99 : (Try.prog.info? 99).map (fun i => (i.zero, i.size, i.bytes)) = some (some (Value.agg #[.int .i64 0, .int .i64 0, .int .i64 0, .int .i64 0, .complex .f64 0 0, .string ⟨#[]⟩, .slice none 0 0]), 7, 88) := by kernel_rfl
theorem info_parts {t : TypeId} {z : Value} {s b : Nat} (h : (Try.prog.info? t).map (fun i => (i.zero, i.size, i.bytes)) = some (some z, s, b)) : ∃ i, Try.prog.info? t = some i ∧ i.zero = some z ∧ i.size = s ∧ i.bytes = b := by
  cases hi : Try.prog.info? t with
  | none => rw [hi] at h; cases h
  | some i =>
    rw [hi] at h
    simp only [Option.map_some, Option.some.injEq, Prod.mk.injEq] at h
    exact ⟨i, rfl, h.1, h.2.1, h.2.2⟩
theorem own_ge {w : World} {base : Nat} {e : TypeId} {size : Nat} {v : Value} {n : Nat} {xs : List Value} (h : w.ownsRow base e size v n xs) {j : Nat} (hj : v.ownBlock = some j) : base ≤ j ∧ j < w.heap.size := by
  rcases h.2 with ⟨rfl, _⟩ | ⟨g, cap, cur, rfl, hb, hg, _⟩
  · simp [Value.ownBlock] at hj
  · simp [Value.ownBlock] at hj; subst hj; exact ⟨hb, (Array.getElem?_eq_some_iff.1 hg).1⟩
theorem Ints.slice {w : World} {v : Value} {l : List Int} (h : Ints w v l) : ∃ ao n cap, v = .slice ao n cap := by
  obtain ⟨ao, cap, rfl, _⟩ := h; exact ⟨_, _, _, rfl⟩
theorem cells_one (i : IV) {v : Value} (h : ∃ ao n cap, v = .slice ao n cap) : ∀ u ∈ i.cells v, u.oneCell' = true := by
  obtain ⟨ao, n, cap, rfl⟩ := h
  intro u hu
  simp only [IV.cells, List.mem_cons, List.not_mem_nil, or_false] at hu
  rcases hu with rfl | rfl | rfl | rfl | rfl | rfl | rfl <;> rfl
/-- An instruction stored. -/
theorem wpList_store7 {ops : Array Oper} {rest : List Oper} {op : Oper} {a : Act} {w : World} {Q : Exit → Act → World → Prop} (hgd : op.guard = none) (ty : TypeId) (x y : Operand) (ho : op.op = .store ty x y)
    {k : Nat} {e : TypeId} {old : List Value} (hr : Row w k e old) (hl : old.length = 7) (hx : a.eval x = .pointer (some ⟨k, 0, none⟩)) (i : IV) (v : Value) (hv : ∃ ao n cap, v = .slice ao n cap)
    (hy : a.eval y = .agg (i.cells v).toArray) (hi : (Try.prog.info? ty).map (·.size) = some 7)
    (h : ∀ w', Row w' k e (i.cells v) → Upd (fun j => j = k) w w' → wpList Try.prog ops Q rest (a.put op.dst undef) w') : wpList Try.prog ops Q (op :: rest) a w := by
  have ht : w.there k 0 7 := fun j hj => by
    rw [Nat.zero_add]
    have : j < old.length := by omega
    exact ⟨by rw [hr.get (List.getElem?_eq_getElem this)]; rfl, hr.free j⟩
  obtain ⟨ao, n, cap, rfl⟩ := hv
  refine wpList_store_mid hgd ty x y ho k 0 _ hx hy ht hi (by simp [Value.oneCell', IV.cells]) ?_
  have h7 := store7 hr hl _ _ _ _ _ _ _ _ (show i.cells (.slice ao n cap) = _ from rfl)
  exact h _ h7.1 h7.2
/-- An instruction pushed behind a list of the own. -/
theorem wpList_push {ops : Array Oper} {rest : List Oper} {o : Oper} {a : Act} {w w0 : World} {Q : Exit → Act → World → Prop} (hgd : o.guard = none) (s y : Operand) (t tx e : TypeId)
    (ho : o.op = .call { callee := .builtin .append, args := #[s, y], argTypes := #[t, tx] }) (ht : Try.prog.underlying t = some (.slice e)) (htx : Try.prog.underlying tx = some (.slice e))
    (hinf : (Try.prog.info? e).map (fun i => (i.zero, i.size, i.bytes)) = some (some (Value.agg #[.int .i64 0, .int .i64 0, .int .i64 0, .int .i64 0, .complex .f64 0 0, .string ⟨#[]⟩, .slice none 0 0]), 7, 88))
    {lv : Value} {L : List IV} (hv : a.eval s = lv) (hlw : LW w w0.heap.size e lv L) {k : Nat} {e' : TypeId} {i : IV} {v : Value} (hr : Row w k e' (i.cells v)) (hy : a.eval y = .slice (some ⟨k, 0, none⟩) 1 1)
    (hi : Ints w v i.tos) (hk : ∀ k, v.ownBlock = some k → w0.heap.size ≤ k ∧ k < w.heap.size ∧ lv.ownBlock ≠ some k) (hn : L.length ≤ 4096) (hu : Upd (fun _ => False) w0 w)
    (h : ∀ v' w', LW w' w0.heap.size e v' (L ++ [i]) → Upd (fun _ => False) w0 w' → wpList Try.prog ops Q rest (a.put o.dst v') w') : wpList Try.prog ops Q (o :: rest) a w := by
  obtain ⟨vs, h1, h2, h3⟩ := hlw
  obtain ⟨ti, hti, y0, y1, y2⟩ := info_parts hinf
  have hone := cells_one i hi.slice
  refine wpList_append_src_own w hgd s y t tx ho w0.heap.size e ti _ 7 88 ht hti y0 y1 y2 rfl lv L.length (flat L vs) hv h2 _ 1 (i.cells v) hy
    (Src.ofSlice (P := Try.prog) (size := 7) (tx := tx) (e' := e) (w := w) htx ⟨k, 0, none⟩ 1 1 _ rfl (World.news_of_block hr) hone) (by unfold maxLen; omega) (by omega) hu.size ?_
  intro v' w' p1 p2 p3 p4
  refine h v' w' ?_ ?_
  · exact LW.push h1 h3 hi hk p1 (Upd.ofGrown p2) p3
  · exact hu.grown p2 (fun k hk hlt => by have := (own_ge h2 hk).1; omega)
/-! ### What holds of every run -/
theorem oneR_range (l : List UInt8) (p : Nat) : (oneR l p).2.2.x.natAbs ≤ 9223372036854775808 ∧ (oneR l p).2.2.y.natAbs ≤ 9223372036854775808 := by
  have hb : ∀ op r, (rBody op r).2.1.natAbs ≤ 9223372036854775808 ∧ (rBody op r).2.2.1.natAbs ≤ 9223372036854775808 := by
    intro op r
    unfold rBody
    split
    · exact ⟨signed_range _, signed_range _⟩
    · split
      · exact ⟨by simp, by simp⟩
      · exact ⟨by simp, by simp⟩
  unfold oneR
  simp only
  have hz : ivZ.x.natAbs ≤ 9223372036854775808 ∧ ivZ.y.natAbs ≤ 9223372036854775808 := ⟨by simp [ivZ], by simp [ivZ]⟩
  repeat' split
  all_goals first | exact hz | exact hb _ _
theorem runN_facts {l : List UInt8} : ∀ {n p : Nat} {acc : List IV}, runN l n = some (acc, p) → acc.length ≤ p ∧ p ≤ l.length ∧ ∀ i ∈ acc, i.x.natAbs ≤ 9223372036854775808 ∧ i.y.natAbs ≤ 9223372036854775808
  | 0, p, acc, h => by
    simp only [runN, Option.some.injEq, Prod.mk.injEq] at h
    obtain ⟨rfl, rfl⟩ := h
    exact ⟨by simp, Nat.zero_le _, fun i hi => by simp at hi⟩
  | n + 1, p, acc, h => by
    cases hn : runN l n with
    | none => rw [runN_none hn (n + 1) (by omega)] at h; cases h
    | some q =>
      obtain ⟨acc', p'⟩ := q
      have ih := runN_facts hn
      by_cases hs : p' < l.length ∧ (oneR l p').1 = 0
      · rw [runN_step hn hs.1 hs.2] at h
        simp only [Option.some.injEq, Prod.mk.injEq] at h
        obtain ⟨rfl, rfl⟩ := h
        have hm := one_moves hs.1 hs.2
        refine ⟨by simp; omega, hm.2, fun i hi => ?_⟩
        rcases List.mem_append.1 hi with hi | hi
        · exact ih.2.2 i hi
        · rw [List.mem_singleton.1 hi]; exact oneR_range l p'
      · rw [runN_stop hn hs] at h; cases h
end Go.Proofs.Ytbpeoclhabgcgaa
