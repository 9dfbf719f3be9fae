import Derived.Test.YtckgcfkahffibaaFree
namespace Go.Proofs.Ytckgcfkahffibaa
open Go.RowKit
set_option linter.unusedVariables false
set_option linter.unusedSimpArgs false
/-- What free tells. -/
def DS.fr (d : DS) (j : Nat) : List UInt8 := if 25 ≤ j then d.rd j else one 0
def isZ : Value → Bool
  | .int .u8 0 => true
  | _ => false
theorem isZ_eq {v : Value} (h : isZ v = true) : v = .int .u8 0 := by
  unfold isZ at h
  split at h
  · rfl
  · cases h
def allZ : Option TypeInfo → Bool
  | some i => (i.size == 16320) && (match i.zero with
    | some (.agg Z) => (Z.toList.length == 16320) && Z.toList.all isZ
    | _ => false)
  | none => false
set_option maxRecDepth 1000000 in
theorem allZ46 : allZ (Try.prog.info? 46) = true := by kernel_rfl
theorem info46 : ∃ i, Try.prog.info? 46 = some i ∧ i.size = 16320 ∧ ∃ Z : Array Value, i.zero = some (.agg Z) ∧ Z.size = 16320 ∧ ∀ j, j < 16320 → Z[j]? = some (.int .u8 0) := by
  have h := allZ46
  unfold allZ at h
  split at h
  · rename_i i hi
    rw [Bool.and_eq_true] at h
    obtain ⟨h1, h2⟩ := h
    split at h2
    · rename_i Z hZ
      rw [Bool.and_eq_true] at h2
      refine ⟨i, hi, by simpa using h1, Z, hZ, by simpa using h2.1, fun j hj => ?_⟩
      have hl : j < Z.toList.length := by have := h2.1; simp at this; simp; omega
      have := List.all_eq_true.1 h2.2 _ (List.getElem_mem hl)
      have e := isZ_eq this
      rw [← Array.getElem?_toList, List.getElem?_eq_getElem hl, e]
    · cases h2
  · cases h
theorem size46 : (Try.prog.info? 46).map (·.size) = some 16320 := by
  obtain ⟨i, hi, hs, _⟩ := info46
  rw [hi]; simp [hs]
theorem zero46 : ∃ Z : Array Value, Z.size = 16320 ∧ (∀ j, j < 16320 → Z[j]? = some (.int .u8 0)) ∧ ∀ w, (zeroValue 46).run Try.prog w = .ok (.agg Z) w := by
  obtain ⟨i, hi, hs, Z, hz, hZ, hZ0⟩ := info46
  exact ⟨Z, hZ, hZ0, fun w => by simp [zeroValue, typeInfo, hi, hz]⟩
theorem zrow {w : World} {g : Nat} {C : Array Value} {t : TypeId} (hs : C.size = 16320) (hz : ∀ j, j < 16320 → C[j]? = some (.int .u8 0)) (h : w.heap[g]? = some (.cells C t (0, 0))) : BRow w g 255 64 t (fun i => bytesV (one 0)) := by
  refine ⟨⟨C, h, by omega⟩, fun i hi => by rw [bytesV_length, one_len], fun i hi j v hv => ?_⟩
  have hj : j < 64 := by
    have := (List.getElem?_eq_some_iff.1 hv).1
    rwa [bytesV_length, one_len] at this
  rw [cell_of_row w g _ C t (0, 0) h, hz _ (by omega), ← hv, ← zeros64, List.getElem?_replicate, if_pos hj]
/-- A variable that holds all blocks. -/
def Var46 (w : World) (g : Nat) (f : Nat → List UInt8) : Prop := BRow w g 255 64 46 (fun i => bytesV (f i)) ∧ B64 f
theorem Var46.range {w : World} {g : Nat} {f : Nat → List UInt8} (h : Var46 w g f) : w.rangeAt g 0 (flatV f) := fun j v hv => by
  rw [Nat.zero_add]; exact h.1.flat_at j v hv
theorem Var46.upd {S : Nat → Prop} {w w' : World} {g : Nat} {f : Nat → List UInt8} (h : Var46 w g f) (hu : Upd S w w') (hg : ¬ S g) : Var46 w' g f := ⟨h.1.upd hu hg, h.2⟩
theorem Var46.lt {w : World} {g : Nat} {f : Nat → List UInt8} (h : Var46 w g f) : g < w.heap.size := h.1.lt
theorem Var46.put {w : World} {g : Nat} {f : Nat → List UInt8} (h : Var46 w g f) (i : Nat) (hi : i < 255) (b : List UInt8) (hb : b.length = 64) : Var46 (w.setCells g (i * 64) (bytesV b)) g (fun j => if j = i then b else f j) := by
  refine ⟨(h.1.put i hi (bytesV b) (by rw [bytesV_length, hb])).congr (fun j _ => ?_), fun j hj => ?_⟩
  · by_cases e : j = i
    · simp [e]
    · simp [e]
  · by_cases e : j = i
    · simp [e, hb]
    · simp only [e, if_false]; exact h.2 j hj
theorem Dsk.rd_len {w : World} {k : Nat} {d : DS} {S : Nat → Prop} (h : Dsk w k d S) (i : Int) : (d.rd i).length = 64 := by
  unfold DS.rd
  by_cases h0 : d.may i = 0
  · rw [if_pos h0]
    refine h.bl_len _ ?_
    unfold DS.may at h0
    split at h0
    · omega
    · omega
  · rw [if_neg h0]; exact one_len 0
def frU (d : DS) (q j : Nat) : List UInt8 := if 25 ≤ j ∧ j < q then d.rd j else one 0
theorem wpList_put46 {w : World} {ops : Array Oper} {rest : List Oper} {o : Oper} {a : Act} {Q : Exit → Act → World → Prop} (g1 : o.guard = none) (x y : Operand) (ho : o.op = .store 28 x y) (g i : Nat) (f : Nat → List UInt8) (b : List UInt8) (hb : b.length = 64) (hi : i < 255) (hv : Var46 w g f)
    (hx : a.eval x = .pointer (some ⟨g, i * 64, none⟩)) (hy : a.eval y = .agg (bytesV b).toArray)
    (h : wpList Try.prog ops Q rest (a.put o.dst undef) (w.setCells g (i * 64) (bytesV b))) : wpList Try.prog ops Q (o :: rest) a w := by
  have hla : (bytesV b).toArray.size = 64 := by rw [List.size_toArray, bytesV_length, hb]
  exact wpList_store_mid g1 28 x y ho g (i * 64) (bytesV b).toArray hx hy (by rw [hla]; exact hv.1.there i hi) (by rw [hla]; exact size28) (all_oneCell_toArray (bytesV_one b)) h
set_option maxHeartbeats 2000000 in
set_option maxRecDepth 100000 in
theorem free_dsk (k : Nat) (d : DS) (S : Nat → Prop) (w : World) (h : Dsk w k d S) :
    Calls Try.prog 21 #[.pointer (some ⟨k, 0, none⟩)] w fun e w' => e = .returned (.agg (flatV d.fr).toArray) ∧ Upd (fun _ => False) w w' ∧ B64 d.fr := by
  have H := Lib.hid h
  obtain ⟨Z, hZ, hZ0, hz46⟩ := zero46
  have HZ := Lib.hid hZ
  have HZ0 := Lib.hid hZ0
  clear h hZ hZ0
  go_enter Try.func21, Try.ntmps21
  go_wp2_with fail
  have hs1 : (w.alloc (.cells Z 46)).heap.size = w.heap.size + 1 := by simp
  have hA : ((w.alloc (.cells Z 46)).alloc (.cells Z 46)).heap[w.heap.size]? = some (.cells Z 46 (0, 0)) := by rw [Below.heap_alloc _ _ _ (by omega)]; exact heap_alloc_new w _
  have hB : ((w.alloc (.cells Z 46)).alloc (.cells Z 46)).heap[w.heap.size + 1]? = some (.cells Z 46 (0, 0)) := by rw [← hs1]; exact heap_alloc_new _ _
  have hu0 : Upd (fun _ => False) w ((w.alloc (.cells Z 46)).alloc (.cells Z 46)) := ((Upd.refl _ w).alloc _).alloc _
  generalize (w.alloc (.cells Z 46)).alloc (.cells Z 46) = w1 at *
  have HR2 := Lib.hid (zrow HZ.out HZ0.out hA)
  have HV3 := Lib.hid (show Var46 w1 (w.heap.size + 1) (frU d 25) from ⟨(zrow HZ.out HZ0.out hB).congr (fun j hj => by
    have e : frU d 25 j = one 0 := by unfold frU; rw [if_neg (by omega)]
    rw [e]), fun j hj => by unfold frU; rw [if_neg (by omega)]; exact one_len 0⟩)
  have HU0 := Lib.hid hu0
  obtain ⟨g2, hg2⟩ : ∃ g2, g2 = w.heap.size := ⟨_, rfl⟩
  obtain ⟨g3, hg3⟩ : ∃ g3, g3 = w.heap.size + 1 := ⟨_, rfl⟩
  rw [← hg2] at HR2
  rw [← hg3] at HV3
  rw [← hg2]
  rw [show g2 + 1 = g3 by omega]
  have HG := Lib.hid (show w.heap.size ≤ g2 ∧ w.heap.size ≤ g3 ∧ g2 ≠ g3 by omega)
  clear hs1 hA hB hu0 hg2 hg3 hz46
  go_loopw [4] (fun i wr => ∃ q : Nat, i = .int .i64 q ∧ 25 ≤ q ∧ q ≤ 255 ∧ Var46 wr g3 (frU d q) ∧ BRow wr g2 255 64 46 (fun i => bytesV (one 0)) ∧ Upd (fun _ => False) w wr) (fun i _ => 255 - (intOf i).toNat)
  case atStart => exact ⟨25, rfl, by omega, by omega, HV3.out, HR2.out, HU0.out⟩
  case round =>
    obtain ⟨q, rfl, hq1, hq2, hv, hr, hu⟩ := hrel
    have HV := Lib.hid hv
    have HR := Lib.hid hr
    have HUr := Lib.hid hu
    have HDr := Lib.hid (H.out.upd0 hu)
    clear hv hr hu
    by_cases hlt : q < 255
    · have d1 : (q : Int) < 255 := by omega
      have d0 : (0 : Int) ≤ (q : Int) := by omega
      have HQ := Lib.hid (show 25 ≤ q ∧ q < 255 from ⟨hq1, hlt⟩)
      have HRL := Lib.hid (H.out.rd_len q)
      clear hlt hq2
      go_wp2_with fail
      refine (read_dsk k d S (q : Int) wr HDr.out).mono ?_
      rintro e w3 ⟨rfl, hu⟩
      have HV3 := Lib.hid (HV.out.upd hu (fun h => h))
      have HR3 := Lib.hid (HR.out.upd hu (fun h => h))
      have HU3 := Lib.hid (HUr.out.trans' hu)
      have HFR := Lib.hid (show frU d (q + 1) = fun j => if j = q then d.rd q else frU d q j by
        funext j
        unfold frU
        by_cases e : j = q
        · subst e; rw [if_pos rfl, if_pos ⟨HQ.out.1, by omega⟩]
        · rw [if_neg e]
          by_cases h : 25 ≤ j ∧ j < q
          · rw [if_pos h, if_pos ⟨h.1, by omega⟩]
          · rw [if_neg h, if_neg (fun h' => h ⟨h'.1, by omega⟩)])
      generalize d.rd (q : Int) = L at *
      clear hu
      go_wp2_with (refine wpList_var28 (by rfl) (by rfl) 5 (.tmp 15) (by rfl) (by rfl) (by rfl) L HRL.out (by rfl) (by rfl) ?c1)
      case c1 =>
      intro w4 hu hr5
      have HV4 := Lib.hid (HV3.out.upd hu (fun h => h))
      have HR4 := Lib.hid (HR3.out.upd hu (fun h => h))
      have HU4 := Lib.hid (HU3.out.trans' hu)
      have HR5 := Lib.hid hr5
      have HSL := Lib.hid (show (Try.prog.info? 28).map (·.size) = some (bytesV L).length by rw [bytesV_length, HRL.out]; exact size28)
      generalize w3.heap.size = g5 at *
      clear hu hr5
      go_wp2_with (first | (refine wpList_load_mid rfl 28 (.tmp 5) rfl g5 0 (by rfl) (bytesV L) _ HR5.out Try.underlying28 rfl HSL.out ?_) | (refine wpList_put46 rfl (.tmp 19) (.tmp 18) rfl g3 q _ L HRL.out HQ.out.2 HV4.out (by rfl) (by rfl) ?_))
      go_roundw
      case rel =>
        refine ⟨q + 1, by go_num, by omega, by have := HQ.out; omega, ?_, ?_, ?_⟩
        · rw [HFR.out]; exact HV4.out.put q HQ.out.2 L HRL.out
        · exact HR4.out.upd (upd_setCells (Upd.refl (fun j => j = g3) w4) g3 _ _ (fun _ => rfl)) HG.out.2.2
        · exact upd_setCells HU4.out _ _ _ (fun h => by have := HG.out.2.1; omega)
      case measure => simp [intOf]; omega
    · have hq : q = 255 := by omega
      subst hq
      have HFE := Lib.hid (show flatV (frU d 255) = flatV d.fr from flatV_congr (fun j hj => by
        unfold frU DS.fr
        by_cases h : 25 ≤ j
        · rw [if_pos ⟨h, hj⟩, if_pos h]
        · rw [if_neg (fun h' => h h'.1), if_neg h]))
      have hrg := HV.out.range
      have hfl := flatV_len HV.out.2
      have hf1 := flatV_one (frU d 255)
      generalize flatV (frU d 255) = F at *
      have HRG := Lib.hid hrg
      have HS46 := Lib.hid (show (Try.prog.info? 46).map (·.size) = some F.length by rw [hfl]; exact size46)
      have HFL := Lib.hid hfl
      have hth : wr.there g2 0 F.length := by
        obtain ⟨C, hC, hs⟩ := HR.out.row
        exact there_row hC (by rw [hfl]; exact hs)
      have HTH := Lib.hid hth
      have HF1 := Lib.hid hf1
      have hst := run_store_range (P := Try.prog) hth hf1
      clear hlt hq1 hq2 hrg hth hf1
      go_wp2_with (refine wpList_load_mid rfl 46 (.tmp 3) rfl g3 0 (by rfl) F _ HRG.out Try.underlying46 rfl HS46.out ?_)
      refine bodyPost_ret (results_cell_mid (p := 2) (ty := 46) rfl _ _ g2 F _ rfl ?_ Try.underlying46 rfl HS46.out) rfl ?_
      · exact World.rangeAt_setCells_same _ _ _ _ HTH.out
      · refine ⟨by rw [HFE.out], upd_setCells HUr.out _ _ _ (fun h => by have := HG.out.1; omega), fun j _ => ?_⟩
        unfold DS.fr
        by_cases h : 25 ≤ j
        · rw [if_pos h]; exact H.out.rd_len _
        · rw [if_neg h]; exact one_len 0
/-- 'x := all blocks': a new variable. -/
theorem wpList_var46 {w : World} {ops : Array Oper} {rest : List Oper} {o1 o2 : Oper} {a : Act} {Q : Exit → Act → World → Prop} (g1 : o1.guard = none) (g2 : o2.guard = none) (p : Tmp) (x : Operand)
    (h1 : o1.op = .alloc 46) (hd : o1.dst = some p) (h2 : o2.op = .store 46 (.tmp p) x) (f : Nat → List UInt8) (hf : B64 f)
    (hp : (a.put (some p) (.pointer (some ⟨w.heap.size, 0, none⟩))).eval (.tmp p) = .pointer (some ⟨w.heap.size, 0, none⟩)) (hx : (a.put (some p) (.pointer (some ⟨w.heap.size, 0, none⟩))).eval x = .agg (flatV f).toArray)
    (h : ∀ w', Upd (fun _ => False) w w' → Var46 w' w.heap.size f → wpList Try.prog ops Q rest ((a.put (some p) (.pointer (some ⟨w.heap.size, 0, none⟩))).put o2.dst undef) w') : wpList Try.prog ops Q (o1 :: o2 :: rest) a w := by
  obtain ⟨Z, hZ, hZ0, hz⟩ := zero46
  have hfl := flatV_len hf
  have hf1 := flatV_one f
  have hrow := zrow hZ hZ0 (heap_alloc_new w (.cells Z 46))
  have hov : Var46 ((w.alloc (.cells Z 46)).setCells w.heap.size 0 (flatV f)) w.heap.size f := ⟨hrow.over (fun i => bytesV (f i)) (fun i hi => by rw [bytesV_length, hf i hi]), hf⟩
  have hth : (w.alloc (.cells Z 46)).there w.heap.size 0 (flatV f).length := there_row (heap_alloc_new w _) (by omega)
  generalize flatV f = F at *
  have hla : F.toArray.size = F.length := by simp
  refine wpList_plain g1 fun K hK => ?_
  refine wp_value (v := .pointer (some ⟨w.heap.size, 0, none⟩)) (w' := w.alloc (.cells Z 46)) ?_ (hK _ _ ?_)
  · simp [execOp, h1, Instr.alloc, newVar, newRow, hz, Value.cells]
  · rw [hd]
    refine wpList_store_mid g2 46 (.tmp p) x h2 w.heap.size 0 F.toArray hp hx (by rw [hla]; exact hth) (by rw [hla, hfl]; exact size46) (all_oneCell_toArray hf1) ?_
    exact h _ (upd_setCells ((Upd.refl _ w).alloc _) _ _ _ (fun h => by omega)) hov
end Go.Proofs.Ytckgcfkahffibaa
