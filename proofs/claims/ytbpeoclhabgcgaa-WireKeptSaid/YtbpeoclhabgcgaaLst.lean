import Derived.Test.YtbpeoclhabgcgaaBook
namespace Go.Proofs.Ytbpeoclhabgcgaa
open Go.RowKit
set_option linter.unusedVariables false
set_option linter.unusedSimpArgs false

/-- A list of the call's own whose elements are one cell wide; it may have lost its first ones (its address lies within its block). -/
def Lst (w : World) (base : Nat) (e : TypeId) (v : Value) (xs : List Value) : Prop :=
  (v = .slice none 0 0 ∧ xs = []) ∨
  ∃ g d cap cur, v = .slice (some ⟨g, d, none⟩) xs.length cap ∧ base ≤ g ∧ w.heap[g]? = some (.cells cur e (0, 0)) ∧ xs.length ≤ cap ∧ d + cap ≤ cur.size ∧ cap ≤ maxLen ∧ (cur.toList.drop d).take xs.length = xs

theorem Lst.nil (w : World) (base : Nat) (e : TypeId) : Lst w base e (.slice none 0 0) [] := .inl ⟨rfl, rfl⟩
theorem Lst.upd {S : Nat → Prop} {w w' : World} {base : Nat} {e : TypeId} {v : Value} {xs : List Value} (h : Lst w base e v xs) (hu : Upd S w w') (hn : ∀ k, v.ownBlock = some k → ¬ S k) : Lst w' base e v xs := by
  rcases h with h | ⟨g, d, cap, cur, rfl, hb, hg, rest⟩
  · exact .inl h
  · exact .inr ⟨g, d, cap, cur, rfl, hb, hu.heap_some hg (hn g rfl), rest⟩
theorem Lst.lt {w : World} {base : Nat} {e : TypeId} {v : Value} {xs : List Value} (h : Lst w base e v xs) (k : Nat) (hk : v.ownBlock = some k) : base ≤ k ∧ k < w.heap.size := by
  rcases h with ⟨rfl, _⟩ | ⟨g, d, cap, cur, rfl, hb, hg, rest⟩
  · simp [Value.ownBlock] at hk
  · simp [Value.ownBlock] at hk
    subst hk
    exact ⟨hb, (Array.getElem?_eq_some_iff.1 hg).1⟩
theorem Lst.shape {w : World} {base : Nat} {e : TypeId} {v : Value} {xs : List Value} (h : Lst w base e v xs) : ∃ ao cap, v = .slice ao xs.length cap ∧ xs.length ≤ cap ∧ cap ≤ maxLen ∧ (0 < xs.length → ∃ g d, ao = some ⟨g, d, none⟩ ∧ ∀ i (hi : i < xs.length), w.cell? ⟨g, d + i, none⟩ = some xs[i]) := by
  rcases h with ⟨rfl, rfl⟩ | ⟨g, d, cap, cur, rfl, hb, hg, h1, h2, h3, h4⟩
  · exact ⟨none, 0, rfl, Nat.le_refl _, by simp [maxLen], fun h => by simp at h⟩
  · refine ⟨_, cap, rfl, h1, h3, fun _ => ⟨g, d, rfl, fun i hi => ?_⟩⟩
    rw [cell_of_row w g (d + i) cur e (0, 0) hg]
    have h5 : ((cur.toList.drop d).take xs.length)[i]? = xs[i]? := by rw [h4]
    rw [List.getElem?_take, if_pos hi, List.getElem?_drop, List.getElem?_eq_getElem hi] at h5
    simpa using h5

theorem run_append_lst {P : Program} (w : World) (t tx ty : TypeId) (base : Nat) (e : TypeId) (i : TypeInfo) (z : Value) (bytes : Nat) (ht : P.underlying t = some (.slice e)) (hi : P.info? e = some i) (hz : i.zero = some z)
    (hsize : i.size = 1) (hby : i.bytes = bytes) (hzs : z.cells.size = 1) (v : Value) (xs : List Value) (hown : Lst w base e v xs)
    (x : Value) (m : Nat) (news : List Value) (hs : Src P 1 tx x m news w) (h63 : xs.length + m ≤ maxLen) (hbytes : (xs.length + m) * bytes ≤ 140737488355328) (hbase : base ≤ w.heap.size) (hm : 0 < m) :
    ∃ v' w', (Builtin.append_ #[t, tx] ty #[v, x]).run P w = .ok v' w' ∧ Lst w' base e v' (xs ++ news) ∧ w.grownBy w' v.ownBlock ∧
      (∀ k, v'.ownBlock = some k → v.ownBlock = some k ∨ w.heap.size ≤ k) := by
  subst hby
  have hml : xs.length + m ≤ 9223372036854775807 := by simp only [maxLen] at h63; omega
  have hnl : news.length = m := by simpa using hs.newsLen
  have hlen : (xs ++ news).length = xs.length + m := by rw [List.length_append, hnl]
  have hs' : Src P i.size tx x m news w := by rw [hsize]; exact hs
  have grown : ∀ (old : Nat), old < xs.length + m → ∀ (row : Option Nat),
      Lst (w.drew.alloc (.cells ((xs ++ news).toArray ++ Builtin.zeroCells z.cells (grownCap w (xs.length + m) old e - (xs.length + m))) e)) base e
        (.slice (some ⟨w.heap.size, 0, none⟩) (xs.length + m) (grownCap w (xs.length + m) old e)) (xs ++ news) ∧
      w.grownBy (w.drew.alloc (.cells ((xs ++ news).toArray ++ Builtin.zeroCells z.cells (grownCap w (xs.length + m) old e - (xs.length + m))) e)) row := by
    intro old ho row
    have hge := grownCap_ge w (xs.length + m) old e
    have hcm : grownCap w (xs.length + m) old e ≤ maxLen := grownCap_le_maxLen w (xs.length + m) old e h63
    refine ⟨.inr ⟨w.heap.size, 0, _, _, by rw [hlen], hbase, heap_alloc_new w.drew _, by rw [hlen]; exact hge, ?_, hcm, ?_⟩, ⟨rfl, rfl, rfl, by simp, fun k hk _ => Below.heap_alloc w.drew _ k hk⟩⟩
    · simp only [Array.size_append, List.size_toArray, size_zeroCells, hzs, hlen, Nat.mul_one]
      omega
    · simp only [Array.toList_append, List.drop_zero]
      exact List.take_left
  rcases hown with ⟨rfl, rfl⟩ | ⟨g, d, cap, cur, rfl, hb, hg, h1, h2, h3, h4⟩
  · have hr := run_append_grow_src (P := P) w t tx ty e i z ht hi hz none 0 0 [] (by simp [Builtin.firstCells]) x m news hs' (by omega) (by simp only [List.length_nil] at hml; omega) (growslice_fits (by omega) (by simpa using hbytes))
    have hgr := grown 0 (by simp; omega) (Value.ownBlock (.slice none 0 0))
    simp only [List.length_nil, Nat.zero_add] at hgr
    simp only [List.nil_append, Nat.zero_add] at hr ⊢
    exact ⟨_, _, hr, by simpa using hgr.1, by simpa using hgr.2, fun k hk => .inr (by simp [Value.ownBlock] at hk; omega)⟩
  · by_cases hroom : xs.length + m ≤ cap
    · have hfit : d + xs.length + news.length ≤ cur.size := by omega
      have hst := run_storeCells_at P g (d + xs.length) e news 0 cur w hg (by simpa using hfit) hs.one
      simp only [Nat.add_zero] at hst
      have hr : (Builtin.append_ #[t, tx] ty #[.slice (some ⟨g, d, none⟩) xs.length cap, x]).run P w = .ok (.slice (some ⟨g, d, none⟩) (xs.length + m) cap)
          (w.setRow g (cur.toList.take (d + xs.length) ++ news ++ cur.toList.drop (d + xs.length + news.length)).toArray) := by
        rcases hs.kind with ⟨e', hk⟩ | hk <;> simp [Builtin.append_, run_underlying ht, run_underlying hk, sizeOf, typeInfo, hi, hs.len, hroom, hs.cells, hsize, Addr.add_lit, hst]
      refine ⟨_, _, hr, .inr ⟨g, d, cap, _, by rw [hlen], hb, setRow_heap w g cur _ e _ hg, by rw [hlen]; exact hroom, ?_, h3, ?_⟩, ⟨rfl, rfl, rfl, by simp, fun k _ hk => setRow_other w g k _ (fun e => hk (by simp [Value.ownBlock, e]))⟩, fun k hk => .inl hk⟩
      · simp only [List.size_toArray, List.length_append, List.length_take, List.length_drop, Array.length_toList]
        omega
      · have hcl : cur.toList.length = cur.size := Array.length_toList
        have e1 : cur.toList.take (d + xs.length) = cur.toList.take d ++ xs := by rw [List.take_add, h4]
        rw [hlen, e1]
        have hd : (cur.toList.take d).length = d := by rw [List.length_take, hcl]; omega
        simp only [List.append_assoc]
        rw [List.drop_append_of_le_length (by omega), List.drop_of_length_le (by omega), List.nil_append, ← List.append_assoc, ← hlen]
        exact List.take_left
    · have holds : ∀ j u, xs[j]? = some u → w.drew.cell? ((⟨g, d, none⟩ : Addr).add j) = some u := by
        intro j u hj
        have hjl := (List.getElem?_eq_some_iff.1 hj).1
        have hadd : (⟨g, d, none⟩ : Addr).add j = ⟨g, d + j, none⟩ := by unfold Addr.add; split <;> simp_all
        rw [hadd, World.cell?_drew, cell_of_row w g (d + j) cur e (0, 0) hg]
        have h5 : ((cur.toList.drop d).take xs.length)[j]? = xs[j]? := by rw [h4]
        rw [List.getElem?_take, if_pos hjl, List.getElem?_drop, hj] at h5
        simpa using h5
      have hr := run_append_grow_src (P := P) w t tx ty e i z ht hi hz (some ⟨g, d, none⟩) xs.length cap xs (run_firstCells_some w.drew i.size xs.length ⟨g, d, none⟩ xs.length cap xs (by rw [hsize, Nat.mul_one]) holds) x m news hs' (by omega) (by omega) (growslice_fits (by omega) hbytes)
      have hgr := grown cap (by omega) (Value.ownBlock (.slice (some ⟨g, d, none⟩) xs.length cap))
      exact ⟨_, _, hr, hgr.1, hgr.2, fun k hk => .inr (by simp [Value.ownBlock] at hk; omega)⟩

theorem wpList_append_lst {P : Program} (w : World) {ops : Array Oper} {rest : List Oper} {o : Oper} {a : Act} {Q : Exit → Act → World → Prop} (hgd : o.guard = none) (s y : Operand) (t tx : TypeId)
    (ho : o.op = .call { callee := .builtin .append, args := #[s, y], argTypes := #[t, tx] })
    (base : Nat) (e : TypeId) (i : TypeInfo) (z : Value) (bytes : Nat) (ht : P.underlying t = some (.slice e)) (hi : P.info? e = some i) (hz : i.zero = some z)
    (hsize : i.size = 1) (hby : i.bytes = bytes) (hzs : z.cells.size = 1) (v : Value) (xs : List Value) (hv : a.eval s = v) (hown : Lst w base e v xs)
    (x : Value) (m : Nat) (news : List Value) (hx : a.eval y = x) (hs : Src P 1 tx x m news w) (h63 : xs.length + m ≤ maxLen) (hbytes : (xs.length + m) * bytes ≤ 140737488355328) (hbase : base ≤ w.heap.size) (hm : 0 < m)
    (h : ∀ v' w', Lst w' base e v' (xs ++ news) → w.grownBy w' v.ownBlock → (∀ k, v'.ownBlock = some k → v.ownBlock = some k ∨ w.heap.size ≤ k) →
      wpList P ops Q rest (a.put o.dst v') w') : wpList P ops Q (o :: rest) a w :=
  wpList_plain hgd fun K hK => by
    obtain ⟨v', w', hr, h2, h3, h4⟩ := run_append_lst (P := P) w t tx o.type base e i z bytes ht hi hz hsize hby hzs v xs hown x m news hs h63 hbytes hbase hm
    unfold Oper.wp execOp
    simp only [ho, resolve, invoke, builtin, Sem.run_bind, Sem.run_pure, Result.andThen_ok, List.map_toArray, List.map_cons, List.map_nil, hv, hx, hr]
    exact hK _ _ (h v' w' h2 h3 h4)

/-- The same at a step of a region that draws its order. -/
theorem step_append_lst {P : Program} (w : World) {ops : Array Oper} {o : Oper} {a : Act} {K : Act → World → Prop} {Q : Exit → Act → World → Prop} {E : Prop} (hgd : o.guard = none) (s y : Operand) (t tx : TypeId)
    (ho : o.op = .call { callee := .builtin .append, args := #[s, y], argTypes := #[t, tx] })
    (base : Nat) (e : TypeId) (i : TypeInfo) (z : Value) (bytes : Nat) (ht : P.underlying t = some (.slice e)) (hi : P.info? e = some i) (hz : i.zero = some z)
    (hsize : i.size = 1) (hby : i.bytes = bytes) (hzs : z.cells.size = 1) (v : Value) (xs : List Value) (hv : a.eval s = v) (hown : Lst w base e v xs)
    (x : Value) (m : Nat) (news : List Value) (hx : a.eval y = x) (hs : Src P 1 tx x m news w) (h63 : xs.length + m ≤ maxLen) (hbytes : (xs.length + m) * bytes ≤ 140737488355328) (hbase : base ≤ w.heap.size) (hm : 0 < m)
    (h : ∀ v' w', Lst w' base e v' (xs ++ news) → w.grownBy w' v.ownBlock → (∀ k, v'.ownBlock = some k → v.ownBlock = some k ∨ w.heap.size ≤ k) → K (a.put o.dst v') w') :
    if Region.wanted o (yielded ops a.tmps) = true then Oper.wp P o a w K Q else E := by
  have hw : Region.wanted o (yielded ops a.tmps) = true := by simp [Region.wanted, hgd]
  rw [if_pos hw]
  obtain ⟨v', w', hr, h2, h3, h4⟩ := run_append_lst (P := P) w t tx o.type base e i z bytes ht hi hz hsize hby hzs v xs hown x m news hs h63 hbytes hbase hm
  unfold Oper.wp execOp
  simp only [ho, resolve, invoke, builtin, Sem.run_bind, Sem.run_pure, Result.andThen_ok, List.map_toArray, List.map_cons, List.map_nil, hv, hx, hr]
  exact h v' w' h2 h3 h4

/-- 'v[1:]'. -/
theorem slice_tail {w0 : World} {base : Nat} {t e : TypeId} {i : TypeInfo} (ht : Try.prog.underlying t = some (.slice e)) (hi : Try.prog.info? e = some i) (hsize : i.size = 1)
    {v x : Value} {xs : List Value} (h : Lst w0 base e v (x :: xs)) :
    ∃ vs, (∀ w, (Instr.sliceAt t v (some (.int .i64 1)) none none).run Try.prog w = .ok vs w) ∧ (∀ w, Lst w base e v (x :: xs) → Lst w base e vs xs) ∧ (∀ k, vs.ownBlock = some k → v.ownBlock = some k) := by
  rcases h with ⟨_, h⟩ | ⟨g, d, cap, cur, rfl, hb, hg, h1, h2, h3, h4⟩
  · cases h
  · simp only [List.length_cons] at h1
    refine ⟨sliced (some ⟨g, d, none⟩) 1 (xs.length + 1) cap 1, fun w => ?_, fun w hw => ?_, sliced_own⟩
    · have e1 : Try.prog.elem t = e := by unfold Program.elem; rw [ht]
      have hU : Try.prog.underlying t = some (.slice (Try.prog.elem t)) := by rw [e1]; exact ht
      rw [run_sliceAt_slice (P := Try.prog) (w := w) (h := hU), show (Value.int .i64 1) = .int .i64 ((1 : Nat) : Int) from rfl, run_slice_l (P := Try.prog) (ht := hU) (h0 := by simp) (h1 := by simp; omega)]
      simp [sizeOf, typeInfo, e1, hi, hsize]
    · rcases hw with ⟨h, _⟩ | ⟨g', d', cap', cur', hv, gb, gg, g1, g2, g3, g4⟩
      · cases h
      · simp only [Value.slice.injEq, Option.some.injEq, Addr.mk.injEq] at hv
        obtain ⟨⟨rfl, rfl, _⟩, _, rfl⟩ := hv
        simp only [List.length_cons] at g1 g4
        have hcl : cur'.toList.length = cur'.size := Array.length_toList
        have htl : (cur'.toList.drop (d + 1)).take xs.length = xs := by
          have h5 := congrArg (List.drop 1) g4
          rw [List.drop_take, List.drop_drop] at h5
          simpa using h5
        by_cases hc : cap = 1
        · have : xs = [] := List.eq_nil_of_length_eq_zero (by omega)
          subst this
          exact .inr ⟨g, d, cap - 1, cur', by simp [sliced, hc], gb, gg, by simp, by omega, by omega, by simp⟩
        · refine .inr ⟨g, d + 1, cap - 1, cur', ?_, gb, gg, by omega, by omega, by omega, htl⟩
          have : (⟨g, d, none⟩ : Addr).add (1 * 1) = ⟨g, d + 1, none⟩ := by unfold Addr.add; split <;> simp_all
          simp [sliced, hc, this]
end Go.Proofs.Ytbpeoclhabgcgaa
