import Derived.Test.YtckgcfkahffibaaCut
import Derived.ChangeKeysEq
namespace Go.Proofs.Ytckgcfkahffibaa
open Go.RowKit
set_option linter.unusedVariables false
set_option linter.unusedSimpArgs false
theorem info5 : (Try.prog.info? 5).map (fun i => (i.zero, i.size, i.bytes)) = some (some (Value.int .u8 0), 1, 1) := by kernel_rfl
theorem eqItems_bytes (d : Nat) (a b : List UInt8) (w : World) : ∀ is : List Nat, (∀ j ∈ is, j < a.length ∧ j < b.length) →
    ∃ r : Bool, (Op.eqItems (d + 1) 5 1 (bytesV a).toArray (bytesV b).toArray is).run Try.prog w = .ok r w ∧ (r = true ↔ ∀ j ∈ is, a[j]? = b[j]?)
  | [], _ => ⟨true, by simp [Op.eqItems], by simp⟩
  | j :: is, h => by
    obtain ⟨r, hr, hiff⟩ := eqItems_bytes d a b w is (fun x hx => h x (by simp [hx]))
    obtain ⟨h1, h2⟩ := h j (by simp)
    have p1 : (part 5 (bytesV a).toArray (j * 1)).run Try.prog w = .ok (byteV a[j]) w := run_part_plain w (by kernel_rfl) (by simp [bytesV, h1])
    have p2 : (part 5 (bytesV b).toArray (j * 1)).run Try.prog w = .ok (byteV b[j]) w := run_part_plain w (by kernel_rfl) (by simp [bytesV, h2])
    have p3 : (Op.equalIn (d + 1) 5 (byteV a[j]) (byteV b[j])).run Try.prog w = .ok (((a[j].toNat : Int)) == (b[j].toNat : Int)) w := run_equalIn_int w d 5 .u8 .u8 _ _ Try.underlying5
    simp only [Op.eqItems, Sem.run_bind, p1, p2, p3, Result.andThen_ok]
    by_cases e : a[j] = b[j]
    · refine ⟨r, by simp [e, hr], ?_⟩
      rw [hiff]
      simp [List.getElem?_eq_getElem h1, List.getElem?_eq_getElem h2, e]
    · refine ⟨false, ?_, ?_⟩
      · have : ¬ (((a[j].toNat : Int)) == (b[j].toNat : Int)) = true := by
          intro h
          exact e (UInt8.toNat_inj.1 (by have := eq_of_beq h; omega))
        simp [this]
      · simp [List.getElem?_eq_getElem h1, List.getElem?_eq_getElem h2, e]
theorem eq_block (a b : List UInt8) (ha : a.length = 64) (hb : b.length = 64) (w : World) : (Op.equalIn 10000 28 (.agg (bytesV a).toArray) (.agg (bytesV b).toArray)).run Try.prog w = .ok (decide (a = b)) w := by
  obtain ⟨i5, hi5, _⟩ := info_parts info5
  rw [run_equalIn_array w 9999 _ _ Try.underlying28 hi5]
  have hc : Try.prog.cellsOf 5 = 1 := by kernel_rfl
  rw [hc]
  obtain ⟨r, hr, hiff⟩ := eqItems_bytes 9998 a b w (List.range 64) (fun j hj => by have := List.mem_range.1 hj; omega)
  rw [hr]
  congr 1
  have : (∀ j ∈ List.range 64, a[j]? = b[j]?) ↔ a = b := by
    constructor
    · intro h
      apply List.ext_getElem?
      intro j
      by_cases hj : j < 64
      · exact h j (List.mem_range.2 hj)
      · rw [List.getElem?_eq_none (by omega), List.getElem?_eq_none (by omega)]
    · rintro rfl j _; rfl
  rw [this] at hiff
  by_cases e : a = b
  · rw [hiff.2 e]; simp [e]
  · cases r
    · simp [e]
    · exact absurd (hiff.1 rfl) e
theorem eql_block (a b : List UInt8) (ha : a.length = 64) (hb : b.length = 64) (w : World) : (binOp .eql 28 (.agg (bytesV a).toArray) (.agg (bytesV b).toArray)).run Try.prog w = .ok (.bool (decide (a = b))) w := by
  rw [run_eql_struct, eq_block a b ha hb]; rfl
theorem neq_block (a b : List UInt8) (ha : a.length = 64) (hb : b.length = 64) (w : World) : (binOp .neq 28 (.agg (bytesV a).toArray) (.agg (bytesV b).toArray)).run Try.prog w = .ok (.bool (!decide (a = b))) w := by
  rw [run_neq_struct, eq_block a b ha hb]; rfl
theorem own_shape {w : World} {base : Nat} {e : TypeId} {size : Nat} {v : Value} {n : Nat} {xs : List Value} (h : w.ownsRow base e size v n xs) : ∃ ao cap, v = .slice ao n cap := by
  rcases h.2 with h | ⟨g, cap, cur, h, _⟩
  · exact ⟨none, 0, by rw [h.1, h.2]⟩
  · exact ⟨_, cap, h⟩
/-- How many writes a disk tells. -/
theorem writes_len (k : Nat) (d : DS) (S : Nat → Prop) (n : Nat) (w : World) (h : Dsk w k d S) (hn : d.ws.length = n) (hb : n ≤ 1000000) :
    Calls Try.prog 16 #[.pointer (some ⟨k, 0, none⟩)] w fun e w' => (∃ ao c, e = .returned (.slice ao n c)) ∧ Upd (fun _ => False) w w' := by
  refine (writes_dsk k d S w h (by omega)).mono ?_
  rintro e w' ⟨V, rfl, hV, hu, _⟩
  rw [hn] at hV
  obtain ⟨ao, c, rfl⟩ := own_shape hV
  exact ⟨⟨ao, c, rfl⟩, hu⟩
theorem zero28 : ∃ Zc : Array Value, Zc.size = 64 ∧ ∀ w, (zeroValue 28).run Try.prog w = .ok (.agg Zc) w := by
  obtain ⟨i0, hi, hz0, hz1, hz2⟩ := info_parts info28
  have hl : (List.replicate 64 (Value.int .u8 0)).toArray.size = 64 := by rw [List.size_toArray, List.length_replicate]
  generalize (List.replicate 64 (Value.int .u8 0)).toArray = Z at *
  exact ⟨Z, hl, fun w => by simp [zeroValue, typeInfo, hi, hz0]⟩
/-- 'x := a block': a new variable that holds it. -/
theorem wpList_var28 {w : World} {ops : Array Oper} {rest : List Oper} {o1 o2 : Oper} {a : Act} {Q : Exit → Act → World → Prop} (g1 : o1.guard = none) (g2 : o2.guard = none) (p : Tmp) (x : Operand)
    (h1 : o1.op = .alloc 28) (hd : o1.dst = some p) (h2 : o2.op = .store 28 (.tmp p) x) (L : List UInt8) (hL : L.length = 64)
    (hp : (a.put (some p) (.pointer (some ⟨w.heap.size, 0, none⟩))).eval (.tmp p) = .pointer (some ⟨w.heap.size, 0, none⟩)) (hx : (a.put (some p) (.pointer (some ⟨w.heap.size, 0, none⟩))).eval x = .agg (bytesV L).toArray)
    (h : ∀ w', Upd (fun _ => False) w w' → w'.rangeAt w.heap.size 0 (bytesV L) → wpList Try.prog ops Q rest ((a.put (some p) (.pointer (some ⟨w.heap.size, 0, none⟩))).put o2.dst undef) w') : wpList Try.prog ops Q (o1 :: o2 :: rest) a w := by
  obtain ⟨Z, hZ, hz⟩ := zero28
  have hlen : (bytesV L).length = 64 := by rw [bytesV_length, hL]
  have hla : (bytesV L).toArray.size = 64 := by simp [hlen]
  refine wpList_plain g1 fun K hK => ?_
  refine wp_value (v := .pointer (some ⟨w.heap.size, 0, none⟩)) (w' := w.alloc (.cells Z 28)) ?_ (hK _ _ ?_)
  · simp [execOp, h1, Instr.alloc, newVar, newRow, hz, Value.cells]
  · rw [hd]
    have hth : (w.alloc (.cells Z 28)).there w.heap.size 0 64 := there_row (heap_alloc_new w _) (by omega)
    refine wpList_store_mid g2 28 (.tmp p) x h2 w.heap.size 0 (bytesV L).toArray hp hx (by rw [hla]; exact hth) (by rw [hla]; exact size28) (all_oneCell_toArray (bytesV_one L)) ?_
    refine h _ (upd_setCells ((Upd.refl _ w).alloc _) _ _ _ (fun h => by omega)) ?_
    exact World.rangeAt_setCells_same _ _ _ _ (by rw [hlen]; exact hth)
end Go.Proofs.Ytckgcfkahffibaa
