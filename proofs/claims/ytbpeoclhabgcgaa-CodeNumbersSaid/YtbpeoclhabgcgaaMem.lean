/-
  WORDS ON MEMORY: what a call may have written ('Upd'), a slice of bytes that can be read ('Bytes'), a block of the call's own. No program in sight.
-/
import Derived.WalkKit
import Derived.WalkSpells
import Derived.WalkLawsBesides
import Derived.ProofKit
import Derived.Deep.AppendSrc
import Derived.Lib.Hide
import Derived.ScopeJumps
import Derived.Deep.AppendLies
namespace Go.Proofs.Ytbpeoclhabgcgaa
open Go.RowKit
set_option linter.unusedVariables false
set_option linter.unusedSimpArgs false

/-- Every block that was there and of which S does not speak is as it was; the streams are as they were; no block has gone. -/
structure Upd (S : Nat → Prop) (w w' : World) : Prop where
  os : w'.os = w.os
  tape : w'.tape = w.tape
  output : w'.output = w.output
  size : w.heap.size ≤ w'.heap.size
  block : ∀ k, k < w.heap.size → ¬ S k → w'.heap[k]? = w.heap[k]?

namespace Upd
theorem refl (S : Nat → Prop) (w : World) : Upd S w w := ⟨rfl, rfl, rfl, Nat.le_refl _, fun _ _ _ => rfl⟩
theorem mono {S S' : Nat → Prop} {w w' : World} (h : Upd S w w') (hs : ∀ k, k < w.heap.size → S k → S' k) : Upd S' w w' :=
  ⟨h.os, h.tape, h.output, h.size, fun k hk hn => h.block k hk (fun s => hn (hs k hk s))⟩
/-- Two steps: the second may write what the first might, and whatever is new. -/
theorem trans {S S' : Nat → Prop} {a b c : World} (h : Upd S a b) (k : Upd S' b c) (hs : ∀ i, i < a.heap.size → S' i → S i) : Upd S a c :=
  ⟨k.os.trans h.os, k.tape.trans h.tape, k.output.trans h.output, Nat.le_trans h.size k.size,
   fun i hi hn => (k.block i (Nat.lt_of_lt_of_le hi h.size) (fun s => hn (hs i hi s))).trans (h.block i hi hn)⟩
theorem trans' {S : Nat → Prop} {a b c : World} (h : Upd S a b) (k : Upd S b c) : Upd S a c := h.trans k (fun _ _ h => h)
theorem drew {S : Nat → Prop} {a w : World} (h : Upd S a w) : Upd S a w.drew := ⟨h.os, h.tape, h.output, h.size, h.block⟩
theorem drewN {S : Nat → Prop} {a w : World} (h : Upd S a w) (n : Nat) : Upd S a (w.drewN n) := ⟨h.os, h.tape, h.output, h.size, h.block⟩
theorem alloc {S : Nat → Prop} {a w : World} (h : Upd S a w) (o : Obj) : Upd S a (w.alloc o) :=
  ⟨h.os, h.tape, h.output, Nat.le_trans h.size (by simp), fun k hk hn => (Below.heap_alloc w o k (Nat.lt_of_lt_of_le hk h.size)).trans (h.block k hk hn)⟩
theorem setCell {S : Nat → Prop} {a w : World} (h : Upd S a w) {p : Addr} (hp : p.block < a.heap.size → S p.block) (u : Value) : Upd S a (w.setCell p u) :=
  ⟨h.os, h.tape, h.output, Nat.le_trans h.size (by simp [World.setCell]),
   fun k hk hn => (Below.heap_setCell w p u k (by rintro rfl; exact hn (hp hk))).trans (h.block k hk hn)⟩
theorem grown {S : Nat → Prop} {a w w' : World} {row : Option Nat} (h : Upd S a w) (hg : w.grownBy w' row) (hr : ∀ k, row = some k → k < a.heap.size → S k) : Upd S a w' :=
  ⟨hg.os.trans h.os, hg.tape.trans h.tape, hg.output.trans h.output, Nat.le_trans h.size hg.size,
   fun k hk hn => (hg.block k (Nat.lt_of_lt_of_le hk h.size) (fun e => hn (hr k e.symm hk))).trans (h.block k hk hn)⟩
theorem ofGrown {w w' : World} {row : Option Nat} (hg : w.grownBy w' row) : Upd (fun k => row = some k) w w' := (refl _ w).grown hg (fun _ h _ => h)
theorem cell {S : Nat → Prop} {w w' : World} (h : Upd S w w') {p : Addr} (hp : p.block < w.heap.size) (hn : ¬ S p.block) : w'.cell? p = w.cell? p := World.cell?_of_block (w := w) (h.block p.block hp hn)
theorem frozen {S : Nat → Prop} {w w' : World} (h : Upd S w w') {p : Addr} (hp : p.block < w.heap.size) (hn : ¬ S p.block) : w'.frozen? p = w.frozen? p := World.frozen?_of_block (w := w) (h.block p.block hp hn)
/-- A cell that reads v still reads v. -/
theorem cell_some {S : Nat → Prop} {w w' : World} (h : Upd S w w') {p : Addr} {v : Value} (hc : w.cell? p = some v) (hn : ¬ S p.block) : w'.cell? p = some v :=
  (h.cell (World.block_lt_of_cell? _ _ hc) hn).trans hc
theorem heap_some {S : Nat → Prop} {w w' : World} (h : Upd S w w') {k : Nat} {o : Obj} (hc : w.heap[k]? = some o) (hn : ¬ S k) : w'.heap[k]? = some o :=
  (h.block k (Array.getElem?_eq_some_iff.1 hc).1 hn).trans hc
theorem below {S : Nat → Prop} {B : Nat} {w w' : World} (h : Upd S w w') (hB : B ≤ w.heap.size) (hs : ∀ k, k < w.heap.size → S k → B ≤ k) : Below B w w' :=
  ⟨h.os, h.tape, h.output, h.size, fun k hk => h.block k (by omega) (fun s => by have := hs k (by omega) s; omega)⟩
theorem ofBelow {B : Nat} {w w' : World} (h : Below B w w') : Upd (fun k => B ≤ k) w w' :=
  ⟨h.os, h.tape, h.output, h.size, fun k _ hn => h.block k (by omega)⟩
end Upd

theorem ownsRow_upd {S : Nat → Prop} {w w' : World} {base : Nat} {e : TypeId} {size : Nat} {v : Value} {n : Nat} {xs : List Value} (h : w.ownsRow base e size v n xs) (hu : Upd S w w')
    (hne : ∀ k, v.ownBlock = some k → ¬ S k) : w'.ownsRow base e size v n xs := by
  refine ⟨h.1, ?_⟩
  rcases h.2 with hn | ⟨g, cap, cur, rfl, hb, hgg, rest⟩
  · exact .inl hn
  · exact .inr ⟨g, cap, cur, rfl, hb, hu.heap_some hgg (hne g rfl), rest⟩
theorem ownsRow_base {w : World} {base base' : Nat} {e : TypeId} {size : Nat} {v : Value} {n : Nat} {xs : List Value} (h : w.ownsRow base e size v n xs) (hb : ∀ k, v.ownBlock = some k → base' ≤ k) : w.ownsRow base' e size v n xs := by
  refine ⟨h.1, ?_⟩
  rcases h.2 with hn | ⟨g, cap, cur, rfl, _, hgg, rest⟩
  · exact .inl hn
  · exact .inr ⟨g, cap, cur, rfl, hb g rfl, hgg, rest⟩

/-- A byte as a value. -/
def byteV (b : UInt8) : Value := .int .u8 b.toNat
def bytesV (l : List UInt8) : List Value := l.map byteV

/-- A slice of bytes that can be read: these bytes, in this world. -/
def Bytes (w : World) (v : Value) (l : List UInt8) : Prop :=
  ∃ ao cap, v = .slice ao l.length cap ∧ l.length ≤ cap ∧ cap ≤ maxLen ∧
    (l = [] ∨ ∃ b off, ao = some ⟨b, off, none⟩ ∧ ∀ i (h : i < l.length), w.cell? ⟨b, off + i, none⟩ = some (byteV l[i]))

theorem bytesV_length (l : List UInt8) : (bytesV l).length = l.length := by simp [bytesV]
theorem bytesV_append (a b : List UInt8) : bytesV (a ++ b) = bytesV a ++ bytesV b := by simp [bytesV]
theorem bytesV_get (l : List UInt8) (i : Nat) (h : i < l.length) : (bytesV l)[i]? = some (byteV l[i]) := by simp [bytesV, h]
theorem bytesV_one (l : List UInt8) : ∀ u ∈ bytesV l, u.oneCell' = true := by
  intro u hu
  obtain ⟨b, _, rfl⟩ := List.mem_map.1 hu
  rfl
theorem byteV_inj {a b : UInt8} (h : byteV a = byteV b) : a = b := by
  have h' : ((a.toNat : Int)) = b.toNat := by simpa [byteV] using h
  exact UInt8.toNat_inj.1 (by omega)
theorem bytesV_inj {a b : List UInt8} (h : bytesV a = bytesV b) : a = b := by
  induction a generalizing b with
  | nil => cases b with | nil => rfl | cons y b => simp [bytesV] at h
  | cons x a ih =>
    cases b with
    | nil => simp [bytesV] at h
    | cons y b =>
      simp only [bytesV, List.map_cons, List.cons.injEq] at h
      rw [byteV_inj h.1, ih h.2]

theorem Bytes_upd {S : Nat → Prop} {w w' : World} {v : Value} {l : List UInt8} (h : Bytes w v l) (hu : Upd S w w') (hn : ∀ k, v.ownBlock = some k → ¬ S k) : Bytes w' v l := by
  obtain ⟨ao, cap, rfl, h1, h2, h3⟩ := h
  refine ⟨ao, cap, rfl, h1, h2, ?_⟩
  rcases h3 with h3 | ⟨b, off, rfl, hc⟩
  · exact .inl h3
  · exact .inr ⟨b, off, rfl, fun i hi => hu.cell_some (hc i hi) (hn b rfl)⟩
theorem Bytes_own {w : World} {base : Nat} {v : Value} {l : List UInt8} (h : w.ownsRow base 5 1 v l.length (bytesV l)) : Bytes w v l := by
  rcases h.2 with ⟨rfl, hl⟩ | ⟨g, cap, cur, rfl, _, hg, hn, hm, hs, ht⟩
  · exact ⟨none, 0, by rw [hl], by omega, by simp [maxLen], .inl (List.eq_nil_of_length_eq_zero hl)⟩
  · refine ⟨some ⟨g, 0, none⟩, cap, rfl, hn, hm, .inr ⟨g, 0, rfl, fun i hi => ?_⟩⟩
    rw [cell_of_row w g (0 + i) cur 5 (0, 0) hg]
    have := bytesV_get l i hi
    rw [← ht, List.getElem?_take] at this
    split at this
    · simpa using this
    · cases this

/-- APPEND TO A SLICE OF THE CALL's OWN, WHATEVER IS APPENDED (a slice, nil, a string): what it owns then, and where. -/
theorem run_append_src_own {P : Program} (w : World) (t tx ty : TypeId) (base : Nat) (e : TypeId) (i : TypeInfo) (z : Value) (size bytes : Nat) (ht : P.underlying t = some (.slice e)) (hi : P.info? e = some i) (hz : i.zero = some z)
    (hsize : i.size = size) (hby : i.bytes = bytes) (hzs : z.cells.size = size) (v : Value) (n : Nat) (xs : List Value) (hown : w.ownsRow base e size v n xs)
    (x : Value) (m : Nat) (news : List Value) (hs : Src P size tx x m news w) (h63 : n + m ≤ maxLen) (hbytes : (n + m) * bytes ≤ 140737488355328) (hbase : base ≤ w.heap.size) :
    ∃ v' w', (Builtin.append_ #[t, tx] ty #[v, x]).run P w = .ok v' w' ∧ w'.ownsRow base e size v' (n + m) (xs ++ news) ∧ w.grownBy w' v.ownBlock ∧
      (∀ k, v'.ownBlock = some k → v.ownBlock = some k ∨ w.heap.size ≤ k) ∧ (v' = .slice none 0 0 ∨ ∃ g cap, v' = .slice (some ⟨g, 0, none⟩) (n + m) cap) := by
  subst hsize
  subst hby
  have hml : n + m ≤ 9223372036854775807 := by simp only [maxLen] at h63; omega
  have hlen : (xs ++ news).length = (n + m) * i.size := by rw [List.length_append, hown.1, hs.newsLen, Nat.add_mul]
  have grown : ∀ (old : Nat), old < n + m → ∀ (row : Option Nat),
      (w.drew.alloc (.cells ((xs ++ news).toArray ++ Builtin.zeroCells z.cells (grownCap w (n + m) old e - (n + m))) e)).ownsRow base e i.size
        (.slice (some ⟨w.heap.size, 0, none⟩) (n + m) (grownCap w (n + m) old e)) (n + m) (xs ++ news) ∧
      w.grownBy (w.drew.alloc (.cells ((xs ++ news).toArray ++ Builtin.zeroCells z.cells (grownCap w (n + m) old e - (n + m))) e)) row := by
    intro old ho row
    have hge := grownCap_ge w (n + m) old e
    have hcm : grownCap w (n + m) old e ≤ maxLen := grownCap_le_maxLen w (n + m) old e h63
    refine ⟨⟨hlen, .inr ⟨w.heap.size, _, _, rfl, hbase, heap_alloc_new w.drew _, hge, hcm, ?_, ?_⟩⟩, ⟨rfl, rfl, rfl, by simp, fun k hk _ => Below.heap_alloc w.drew _ k hk⟩⟩
    · simp only [Array.size_append, List.size_toArray, size_zeroCells, hzs, hlen, ← Nat.add_mul]
      congr 1
      omega
    · simp only [Array.toList_append]
      rw [← hlen]
      exact List.take_left
  rcases hown.2 with ⟨rfl, rfl⟩ | ⟨g, cap, cur, rfl, hbg, hg, hnc, hcm, hcs, htake⟩
  · have hx : xs = [] := List.eq_nil_of_length_eq_zero (by simpa using hown.1)
    subst hx
    by_cases hm : m = 0
    · subst hm
      have hn : news = [] := List.eq_nil_of_length_eq_zero (by simpa using hs.newsLen)
      subst hn
      refine ⟨.slice none 0 0, w, ?_, World.ownsRow_nil w base e i.size, ⟨rfl, rfl, rfl, Nat.le_refl _, fun _ _ _ => rfl⟩, by simp [Value.ownBlock], .inl rfl⟩
      rcases hs.kind with ⟨e', hk⟩ | hk <;> simp [Builtin.append_, run_underlying ht, run_underlying hk, sizeOf, typeInfo, hi, hs.len, hs.cells]
    · have hr := run_append_grow_src (P := P) w t tx ty e i z ht hi hz none 0 0 [] (by simp [Builtin.firstCells]) x m news hs (by omega) (by omega) (growslice_fits (by omega) hbytes)
      have hgr := grown 0 (by omega) (Value.ownBlock (.slice none 0 0))
      exact ⟨_, _, hr, hgr.1, hgr.2, fun k hk => .inr (by simp [Value.ownBlock] at hk; omega), .inr ⟨_, _, rfl⟩⟩
  · by_cases hroom : n + m ≤ cap
    · have hfit : n * i.size + news.length ≤ cur.size := by rw [hs.newsLen, hcs, ← Nat.add_mul]; exact Nat.mul_le_mul_right _ hroom
      have hst := run_storeCells_at P g (n * i.size) e news 0 cur w hg (by simpa using hfit) hs.one
      simp only [Nat.add_zero] at hst
      have hr : (Builtin.append_ #[t, tx] ty #[.slice (some ⟨g, 0, none⟩) n cap, x]).run P w = .ok (.slice (some ⟨g, 0, none⟩) (n + m) cap)
          (w.setRow g (cur.toList.take (n * i.size) ++ news ++ cur.toList.drop (n * i.size + news.length)).toArray) := by
        rcases hs.kind with ⟨e', hk⟩ | hk <;> simp [Builtin.append_, run_underlying ht, run_underlying hk, sizeOf, typeInfo, hi, hs.len, hroom, hs.cells, Addr.add_lit, hst]
      refine ⟨_, _, hr, ⟨hlen, .inr ⟨g, cap, _, rfl, hbg, setRow_heap w g cur _ e _ hg, hroom, hcm, ?_, ?_⟩⟩, ⟨rfl, rfl, rfl, by simp, fun k _ hk => setRow_other w g k _ (fun e => hk (by simp [Value.ownBlock, e]))⟩, fun k hk => .inl hk, .inr ⟨_, _, rfl⟩⟩
      · simp only [List.size_toArray, List.length_append, List.length_take, List.length_drop, Array.length_toList]
        omega
      · rw [htake, ← hlen]
        exact List.take_left
    · have holds : ∀ j u, xs[j]? = some u → w.drew.cell? ((⟨g, 0, none⟩ : Addr).add j) = some u := hown.cells (g := g) rfl
      have hr := run_append_grow_src (P := P) w t tx ty e i z ht hi hz (some ⟨g, 0, none⟩) n cap xs (run_firstCells_some w.drew i.size n ⟨g, 0, none⟩ n cap xs hown.1 holds) x m news hs (by omega) (by omega) (growslice_fits (by omega) hbytes)
      have hgr := grown cap (by omega) (Value.ownBlock (.slice (some ⟨g, 0, none⟩) n cap))
      exact ⟨_, _, hr, hgr.1, hgr.2, fun k hk => .inr (by simp [Value.ownBlock] at hk; omega), .inr ⟨_, _, rfl⟩⟩

theorem wpList_append_src_own {P : Program} (w : World) {ops : Array Oper} {rest : List Oper} {o : Oper} {a : Act} {Q : Exit → Act → World → Prop} (hgd : o.guard = none) (s y : Operand) (t tx : TypeId)
    (ho : o.op = .call { callee := .builtin .append, args := #[s, y], argTypes := #[t, tx] })
    (base : Nat) (e : TypeId) (i : TypeInfo) (z : Value) (size bytes : Nat) (ht : P.underlying t = some (.slice e)) (hi : P.info? e = some i) (hz : i.zero = some z)
    (hsize : i.size = size) (hby : i.bytes = bytes) (hzs : z.cells.size = size) (v : Value) (n : Nat) (xs : List Value) (hv : a.eval s = v) (hown : w.ownsRow base e size v n xs)
    (x : Value) (m : Nat) (news : List Value) (hx : a.eval y = x) (hs : Src P size tx x m news w) (h63 : n + m ≤ maxLen) (hbytes : (n + m) * bytes ≤ 140737488355328) (hbase : base ≤ w.heap.size)
    (h : ∀ v' w', w'.ownsRow base e size v' (n + m) (xs ++ news) → w.grownBy w' v.ownBlock → (∀ k, v'.ownBlock = some k → v.ownBlock = some k ∨ w.heap.size ≤ k) →
      (v' = .slice none 0 0 ∨ ∃ g cap, v' = .slice (some ⟨g, 0, none⟩) (n + m) cap) → wpList P ops Q rest (a.put o.dst v') w') : wpList P ops Q (o :: rest) a w :=
  wpList_plain hgd fun K hK => by
    obtain ⟨v', w', hr, h2, h3, h4, h5⟩ := run_append_src_own (P := P) w t tx o.type base e i z size bytes ht hi hz hsize hby hzs v n xs hown x m news hs h63 hbytes hbase
    unfold Oper.wp execOp
    simp only [ho, resolve, invoke, builtin, Sem.run_bind, Sem.run_pure, Result.andThen_ok, List.map_toArray, List.map_cons, List.map_nil, hv, hx, hr]
    exact hK _ _ (h v' w' h2 h3 h4 h5)

/-- The same at a step of a region that draws its order. -/
theorem step_append_src_own {P : Program} (w : World) {ops : Array Oper} {o : Oper} {a : Act} {K : Act → World → Prop} {Q : Exit → Act → World → Prop} {E : Prop} (hgd : o.guard = none) (s y : Operand) (t tx : TypeId)
    (ho : o.op = .call { callee := .builtin .append, args := #[s, y], argTypes := #[t, tx] })
    (base : Nat) (e : TypeId) (i : TypeInfo) (z : Value) (size bytes : Nat) (ht : P.underlying t = some (.slice e)) (hi : P.info? e = some i) (hz : i.zero = some z)
    (hsize : i.size = size) (hby : i.bytes = bytes) (hzs : z.cells.size = size) (v : Value) (n : Nat) (xs : List Value) (hv : a.eval s = v) (hown : w.ownsRow base e size v n xs)
    (x : Value) (m : Nat) (news : List Value) (hx : a.eval y = x) (hs : Src P size tx x m news w) (h63 : n + m ≤ maxLen) (hbytes : (n + m) * bytes ≤ 140737488355328) (hbase : base ≤ w.heap.size)
    (h : ∀ v' w', w'.ownsRow base e size v' (n + m) (xs ++ news) → w.grownBy w' v.ownBlock → (∀ k, v'.ownBlock = some k → v.ownBlock = some k ∨ w.heap.size ≤ k) →
      (v' = .slice none 0 0 ∨ ∃ g cap, v' = .slice (some ⟨g, 0, none⟩) (n + m) cap) → K (a.put o.dst v') w') :
    if Region.wanted o (yielded ops a.tmps) = true then Oper.wp P o a w K Q else E := by
  have hw : Region.wanted o (yielded ops a.tmps) = true := by simp [Region.wanted, hgd]
  rw [if_pos hw]
  obtain ⟨v', w', hr, h2, h3, h4, h5⟩ := run_append_src_own (P := P) w t tx o.type base e i z size bytes ht hi hz hsize hby hzs v n xs hown x m news hs h63 hbytes hbase
  unfold Oper.wp execOp
  simp only [ho, resolve, invoke, builtin, Sem.run_bind, Sem.run_pure, Result.andThen_ok, List.map_toArray, List.map_cons, List.map_nil, hv, hx, hr]
  exact h v' w' h2 h3 h4 h5

theorem Src.ofBytes {P : Program} {tx : TypeId} (hk : P.underlying tx = some (.slice 5)) {w : World} {v : Value} {l : List UInt8} (h : Bytes w v l) : Src P 1 tx v l.length (bytesV l) w := by
  obtain ⟨ao, cap, rfl, _, _, h3⟩ := h
  rcases h3 with rfl | ⟨b, off, rfl, hc⟩
  · cases ao with
    | none => exact Src.ofNil w hk cap
    | some a => exact Src.ofSlice w hk a _ _ _ rfl (fun j u hj => by simp [bytesV] at hj) (fun u hu => by simp [bytesV] at hu)
  · refine Src.ofSlice w hk ⟨b, off, none⟩ _ _ _ (by simp [bytesV]) (fun j u hj => ?_) (bytesV_one l)
    have hl : j < l.length := by
      have := (List.getElem?_eq_some_iff.1 hj).1
      simpa [bytesV] using this
    rw [bytesV_get l j hl] at hj
    have hadd : (⟨b, off, none⟩ : Addr).add j = ⟨b, off + j, none⟩ := by unfold Addr.add; split <;> simp_all
    rw [hadd, hc j hl]
    exact hj
theorem byteCells_eq (s : ByteArray) : byteCells s = bytesV s.data.toList := rfl
section
variable {l : Nat} {J : Act → World → Prop} {Q : Exit → Act → World → Prop} {a : Act} {w : World}
@[go_sem] theorem jump_normal : Exit.jump l J Q .normal a w = Q .normal a w := rfl
@[go_sem] theorem jump_ret : Exit.jump l J Q .ret a w = Q .ret a w := rfl
@[go_sem] theorem jump_exit (i : Nat) : Exit.jump l J Q (.exit i) a w = Q (.exit i) a w := rfl
@[go_sem] theorem jump_panic (c : List PanicEntry) : Exit.jump l J Q (.panic c) a w = Q (.panic c) a w := rfl
theorem jump_goto : Exit.jump l J Q (.goto l) a w = (l = l ∧ J a w) := rfl
end
/-- A scope that begins with its one label. -/
theorem wp_scope_label {P : Program} {a : Act} {w : World} {Q : Exit → Act → World → Prop} {c : Code} (l : Nat) (J : Act → World → Prop) (μ : Act → World → Nat)
    (h0 : J a w)
    (pass : ∀ a w, J a w → c.wp P (Exit.jump l (fun a' w' => J a' w' ∧ μ a' w' < μ a w) Q) a w) : (Code.scope (.seq (.label l) c)).wp P Q a w := by
  refine wp_scope_jumps (rest := .seq .skip c) l J μ (by simp [findLabel]) ?_ (fun a w h => wp_seq (wp_skip (pass a w h)))
  refine wp_seq (wp_label ?_)
  refine wp_mono (pass a w h0) ?_
  intro e a' w' h
  cases e with
  | goto l' => exact ⟨h.1, h.2.1⟩
  | normal => exact h
  | exit i => exact h
  | ret => exact h
  | panic c => exact h
  | outgrown => exact h
/-- A scope with its one label behind a straight piece of code. -/
theorem wp_scope_mid {P : Program} {a : Act} {w : World} {Q : Exit → Act → World → Prop} {c0 c : Code} (l : Nat) (J : Act → World → Prop) (μ : Act → World → Nat)
    (hf : findLabel c0 l = none) (first : c0.wp P (Exit.then J (fun _ _ _ => False)) a w)
    (pass : ∀ a w, J a w → c.wp P (Exit.jump l (fun a' w' => J a' w' ∧ μ a' w' < μ a w) Q) a w) : (Code.scope (.seq c0 (.seq (.label l) c))).wp P Q a w := by
  refine wp_scope_jumps (rest := .seq .skip c) l J μ (by simp [findLabel, hf]) ?_ (fun a w h => wp_seq (wp_skip (pass a w h)))
  refine wp_seq (wp_mono first ?_)
  intro e a' w' h
  cases e with
  | normal =>
    refine wp_seq (wp_label ?_)
    refine wp_mono (pass a' w' h) ?_
    intro e a' w' h
    cases e with
    | goto l' => exact ⟨h.1, h.2.1⟩
    | normal => exact h
    | exit i => exact h
    | ret => exact h
    | panic c => exact h
    | outgrown => exact h
  | exit i => exact h.elim
  | goto i => exact h.elim
  | ret => exact h.elim
  | panic c => exact h.elim
  | outgrown => exact h.elim
end Go.Proofs.Ytbpeoclhabgcgaa
