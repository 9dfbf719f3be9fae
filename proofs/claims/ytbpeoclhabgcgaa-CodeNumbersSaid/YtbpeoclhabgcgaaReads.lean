import Derived.Test.YtbpeoclhabgcgaaRef4
import Derived.Test.YtbpeoclhabgcgaaBook
import Derived.Test.YtbpeoclhabgcgaaParts
import Derived.Deep.RegionHeld3
import Derived.Deep.RegionWith
import Derived.Deep.CutRange
namespace Go.Proofs.Ytbpeoclhabgcgaa
open Go.RowKit
set_option linter.unusedVariables false
set_option linter.unusedSimpArgs false

/-- The two readers, side by side, in one state. -/
structure Two (w0 w : World) (a b : Nat) (vs v : Value) (r : RS) : Prop where
  rd : Rd w a vs r
  rf : Rf w b v r
  upd : Upd (fun _ => False) w0 w
structure TwoS (w0 : World) (a b g : Nat) (vs v : Value) (l : List UInt8) : Prop where
  na : w0.heap.size ≤ a
  nb : w0.heap.size ≤ b
  ab : a ≠ b
  vb : vs.ownBlock ≠ some b
  va : l = [] ∨ v.ownBlock ≠ some a
  ga : g ≠ a
  gb : g ≠ b

theorem RS.number_l (r : RS) (n : Int) : (r.number n).1.l = r.l := by
  unfold RS.number
  split
  · obtain ⟨N, s, y, hN⟩ : ∃ N s y, numR (r.l.drop r.p) = (N, s, y) := ⟨_, _, _, rfl⟩
    rw [hN]
    simp only
    split
    · rfl
    · split
      · rfl
      · split <;> rfl
  · rfl
theorem RS.take_l (r : RS) (n : Int) : (r.take n).l = r.l := by
  unfold RS.take
  split
  · split <;> rfl
  · rfl
theorem RS.refuse_l (r : RS) (y n : Int) : (r.refuse y n).l = r.l := by unfold RS.refuse; split <;> rfl
theorem RS.signed_l (r : RS) : r.signed.1.l = r.l := RS.number_l r maxU
theorem RS.text_l (r : RS) (n : Int) : (r.text n).1.l = r.l := (RS.take_l _ _).trans (RS.number_l _ _)

theorem Two.one {w0 w w1 : World} {a b g : Nat} {vs v : Value} {r r' : RS} (h : Two w0 w a b vs v r) (s : TwoS w0 a b g vs v r.l) (hp : RdPost a vs r' w w1) : Rd w1 a vs r' ∧ Rf w1 b v r ∧ Upd (fun _ => False) w0 w1 :=
  ⟨hp.1, h.rf.beside hp.2 (Ne.symm s.ab) s.va, h.upd.new (fun k (e : k = a) => e ▸ s.na) hp.2⟩
theorem Two.two {w0 w w1 : World} {a b g : Nat} {vs v : Value} {r r' l : RS} (h : Rd w a vs r' ∧ Rf w b v r ∧ Upd (fun _ => False) w0 w) (s : TwoS w0 a b g vs v r.l) (hp : RfPost b v r' w w1) : Two w0 w1 a b vs v r' :=
  ⟨h.1.upd hp.2 (fun k _ hk e => by rcases hk with rfl | hk; exact s.ab e; exact s.vb (by rw [hk, e])), hp.1, h.2.2.new (fun k (e : k = b) => e ▸ s.nb) hp.2⟩
theorem Two.drew {w0 w : World} {a b : Nat} {vs v : Value} {r : RS} (h : Two w0 w a b vs v r) : Two w0 w.drew a b vs v r :=
  ⟨Rd_drewN h.rd 1, h.rf.drewN 1, h.upd.drewN 1⟩
theorem Two.drewN {w0 w : World} {a b : Nat} {vs v : Value} {r : RS} (h : Two w0 w a b vs v r) (n : Nat) : Two w0 (w.drewN n) a b vs v r := ⟨Rd_drewN h.rd n, h.rf.drewN n, h.upd.drewN n⟩
theorem Two.alloc {w0 w : World} {a b : Nat} {vs v : Value} {r : RS} (h : Two w0 w a b vs v r) (o : Obj) : Two w0 (w.alloc o) a b vs v r :=
  ⟨h.rd.upd ((Upd.refl (fun _ => False) w).alloc o) (fun _ _ _ h => h), h.rf.upd ((Upd.refl (fun _ => False) w).alloc o) (fun _ _ h => h), h.upd.alloc o⟩

set_option maxHeartbeats 4000000 in
set_option maxRecDepth 100000 in
theorem reads_any (v u : Value) (l : List UInt8) (L : List PartV) (w : World) (hb : Bytes w v l) (hl : l.length ≤ 140737488351232) (hp : Parts w u L) :
    Calls Try.prog 8 #[v, u] w (TrueP w) := by
  have HP0 := Lib.hid hp
  have HB0 := Lib.hid hb
  have hvlt : l = [] ∨ ∀ k, v.ownBlock = some k → k < w.heap.size := by
    obtain ⟨ao', cap', rfl, _, _, h⟩ := hb
    rcases h with h | ⟨b, off, rfl, hc⟩
    · exact .inl h
    · by_cases h0 : l.length = 0
      · exact .inl (List.eq_nil_of_length_eq_zero h0)
      · right
        intro k hk
        have h1 := World.block_lt_of_cell? _ _ (hc 0 (by omega))
        simp [Value.ownBlock] at hk
        simp only at h1
        omega
  obtain ⟨ao, cap, rfl, hm, _⟩ := hp
  have hmm : L.length ≤ 9223372036854775807 := by unfold maxLen at hm; exact hm
  have hsh : ∃ ao' cap', v = .slice ao' l.length cap' := by obtain ⟨ao', cap', rfl, _⟩ := hb; exact ⟨_, _, rfl⟩
  have HVL := Lib.hid hvlt
  clear hm hb hvlt
  obtain ⟨aov, capv, rfl⟩ := hsh
  go_enter Try.func8, Try.ntmps8
  go_wp2_with fail
  refine (roomy_any _ l _ HB0.out hl).mono ?_
  rintro e w1 ⟨g, rfl, hg, hown, hu⟩
  have HG1 := Lib.hid hown
  have HU1 := Lib.hid hu
  have hglt := (hown.lt g rfl).2
  have HGL := Lib.hid hglt
  have HGe := Lib.hid hg
  obtain ⟨vt, t1, t2, t3⟩ := slice_to (w0 := w1) (v := .slice (some ⟨g, 0, none⟩) (l.length + 80) (l.length + 80)) (l := l ++ List.replicate 80 165) (Bytes_own (base := w.heap.size) (by simpa using hown)) l.length (by simp)
  have HT2 := Lib.hid t2
  clear hown hu hglt hg t2 t3
  go_wp2_with fail
  have hbt : Bytes w1 vt l := by
    have := HT2.out w1 (Bytes_own (base := w.heap.size) (by simpa using HG1.out))
    rwa [List.take_left] at this
  refine (newReader_any vt l _ hbt (by omega)).mono ?_
  rintro e w2 ⟨a, vs, rfl, ha, hvs, hr, hu⟩
  have HR2 := Lib.hid hr
  have HU2 := Lib.hid hu
  have HA := Lib.hid ha
  have HVS := Lib.hid hvs
  clear hr hu ha hvs hbt t1
  have HTS : Hid (TwoS w a w2.heap.size g vs (.slice aov l.length capv) l) := by
    refine ⟨Nat.le_trans HU1.out.size HA.out, Nat.le_trans HU1.out.size HU2.out.size, ?_, ?_, ?_, ?_, ?_⟩
    · have := HR2.out.lt; omega
    · intro e; have := (HR2.out.own.lt _ e).2; omega
    · rcases HVL.out with h | h
      · exact .inl h
      · right; intro e; have := h _ e; have := HU1.out.size; have := HA.out; omega
    · have := HGL.out; have := HA.out; omega
    · have := HGL.out; have := HU2.out.size; omega
  have HTW : Hid (Two w (w2.alloc (.cells #[.slice aov l.length capv, .int .i64 0, .bool false, .int .i64 0, .int .i64 0] 62)) a w2.heap.size vs (.slice aov l.length capv) ⟨l, 0, 0, 0⟩) := by
    refine ⟨HR2.out.upd ((Upd.refl (fun _ => False) w2).alloc _) (fun _ _ _ h => h), ?_, (HU1.out.trans' HU2.out).alloc _⟩
    refine ⟨⟨0, 0, 0, heap_alloc_new w2 _, fun _ => rfl, fun h => absurd rfl h⟩, Bytes_upd HB0.out ((HU1.out.trans' HU2.out).alloc _) (fun _ _ h => h), ?_, Nat.zero_le _, by show l.length ≤ _; omega⟩
    rcases HVL.out with h | h
    · exact .inl h
    · right; intro e; have := h _ e; have := HU1.out.size; have := HU2.out.size; omega
  have HGB : Hid (Bytes (w2.alloc (.cells #[.slice aov l.length capv, .int .i64 0, .bool false, .int .i64 0, .int .i64 0] 62)) (.slice (some ⟨g, 0, none⟩) (l.length + 80) (l.length + 80)) (l ++ List.replicate 80 165)) :=
    Bytes_upd (Bytes_own (base := w.heap.size) (by simpa using HG1.out)) (HU2.out.alloc _) (fun _ _ h => h)
  go_wp2
  go_loopw [8] (fun i wr => ∃ (k : Nat) (r : RS), i = .int .i64 k ∧ k ≤ 30 ∧ k ≤ L.length ∧ r.l = l ∧ Two w wr a w2.heap.size vs (.slice aov l.length capv) r ∧
    Bytes wr (.slice (some ⟨g, 0, none⟩) (l.length + 80) (l.length + 80)) (l ++ List.replicate 80 165)) (fun i _ => 30 - (intOf i).toNat)
  case atStart => exact ⟨0, _, rfl, by omega, by omega, rfl, HTW.out, HGB.out⟩
  case round =>
    obtain ⟨k, r, rfl, hk30, hkL, hrl, htw, hgb⟩ := hrel
    have HTr := Lib.hid htw
    have HGr := Lib.hid hgb
    have HRL := Lib.hid hrl
    have hrlt := htw.rf.lt
    have hwle := htw.upd.size
    have HTSr : Hid (TwoS w a w2.heap.size g vs (.slice aov l.length capv) r.l) := by show TwoS _ _ _ _ _ _ _; rw [hrl]; exact HTS.out
    clear htw hgb hrl
    generalize w2.heap.size = b at *
    by_cases hlt : k < L.length
    · by_cases hk : k < 30
      · obtain ⟨bo, of, rfl, hpa⟩ : ∃ bo of, ao = some ⟨bo, of, none⟩ ∧ PartAt w bo (of + k * 4) L[k] := by
          obtain ⟨ao', cap', hv, _, hh⟩ := HP0.out
          simp only [Value.slice.injEq] at hv
          obtain ⟨rfl, _, rfl⟩ := hv
          rcases hh with rfl | ⟨bo, of, rfl, hc⟩
          · simp at hlt
          · exact ⟨bo, of, rfl, hc k hlt⟩
        obtain ⟨_, _, m0, m1, ⟨n0, n1⟩, _⟩ := hpa.ok
        obtain ⟨_, p0, p1, p2, p3⟩ := hpa.upd HTr.out.upd (fun h => h)
        generalize L[k] = x at *
        clear hpa
        by_cases q1 : x.kind = 1
        · have s1 : (x.kind == 1) = true := by simp [q1]
          clear q1
          go_wp2
          have HTz : Hid (Two w (wr.alloc (.cells #[.int .i64 x.kind, .int .i64 x.most, .int .u64 x.n, .string x.text] 33)) a b vs (.slice aov l.length capv) r) := HTr.out.alloc _
          have HGz : Hid (Bytes (wr.alloc (.cells #[.int .i64 x.kind, .int .i64 x.most, .int .u64 x.n, .string x.text] 33)) (.slice (some ⟨g, 0, none⟩) (l.length + 80) (l.length + 80)) (l ++ List.replicate 80 165)) := Bytes_upd HGr.out ((Upd.refl (fun _ => False) wr).alloc _) (fun _ _ h => h)
          have z2 : (wr.alloc (.cells #[.int .i64 x.kind, .int .i64 x.most, .int .u64 x.n, .string x.text] 33)).cell? ⟨wr.heap.size, 2, none⟩ = some (.int .u64 x.n) := by simp [World.cell?_alloc_at]
          have z1 : (wr.alloc (.cells #[.int .i64 x.kind, .int .i64 x.most, .int .u64 x.n, .string x.text] 33)).cell? ⟨wr.heap.size, 1, none⟩ = some (.int .i64 x.most) := by simp [World.cell?_alloc_at]
          have hxa : wr.heap.size ≠ a := by have := HTr.out.rd.lt; omega
          have hxb : wr.heap.size ≠ b := by omega
          generalize wr.alloc (.cells #[.int .i64 x.kind, .int .i64 x.most, .int .u64 x.n, .string x.text] 33) = wz at *
          generalize wr.heap.size = xb at *
          clear p0 p1 p2 p3
          go_region_held3 (fun w' => w'.cell? ⟨xb, 2, none⟩ = some (.int .u64 x.n))
            (first | go_keep | (exact hpA.2.cell_some (by assumption) hxa) | (exact hpB.2.cell_some (by assumption) hxb))
            ((first
              | (go_at_call 28; refine (rnum_any a vs r x.n _ HTz.out.drew.rd).mono ?_; rintro e wA ⟨rfl, hpA⟩)
              | (go_at_call 35; refine (fnum_any b _ r x.n _ (HTz.out.drew.one HTSr.out hpA).2.1).mono ?_; rintro e wB ⟨rfl, hpB⟩)))
          have h1 := HTz.out.drew.one HTSr.out hpA
          have HTB := Lib.hid (Two.two (l := r) h1 HTSr.out hpB)
          have HGA2 := Bytes_upd (Bytes_upd HGz.out (Upd.drewN (Upd.refl (fun _ => False) wz) 1) (fun _ _ h => h)) hpA.2 (fun k hk e => by simp [Value.ownBlock] at hk; exact HTS.out.ga (hk.trans e))
          have HGB2 := Lib.hid (Bytes_upd HGA2 hpB.2 (fun k hk e => by simp [Value.ownBlock] at hk; exact HTS.out.gb (hk.trans e)))
          have HLB : Hid ((r.number x.n).1.l = l) := by show _ = _; rw [RS.number_l]; exact HRL.out
          clear hpA hpB h1 HGA2
          go_wp2_with fail
          refine (rend_any a vs (r.number x.n).1 _ HTB.out.rd).mono ?_
          rintro e w5 ⟨rfl, n5, rfl⟩
          go_wp2_with fail
          refine (fend_any b _ (r.number x.n).1 _ (HTB.out.drewN n5).rf).mono ?_
          rintro e w6 ⟨rfl, n6, rfl⟩
          go_wp2_with fail
          refine (rleft_any a vs (r.number x.n).1 _ (HTB.out.drewN _).rd).mono ?_
          rintro e w7 ⟨rfl, n7, rfl⟩
          go_wp2_with fail
          refine (fleft_any b _ (r.number x.n).1 _ (HTB.out.drewN _).rf).mono ?_
          rintro e w8 ⟨rfl, n8, rfl⟩
          go_wp2
          go_roundw
          case rel => exact ⟨k + 1, _, by go_num, by omega, by omega, HLB.out, HTB.out.drewN _, Bytes_drewN HGB2.out _⟩
          case measure => simp [intOf]; omega
        have s1 : (x.kind == 1) = false := by simp [q1]
        by_cases q2 : x.kind = 2
        · have s2 : (x.kind == 2) = true := by simp [q2]
          clear q2
          go_wp2_with fail
          have HTz : Hid (Two w (wr.alloc (.cells #[.int .i64 x.kind, .int .i64 x.most, .int .u64 x.n, .string x.text] 33)) a b vs (.slice aov l.length capv) r) := HTr.out.alloc _
          have HGz : Hid (Bytes (wr.alloc (.cells #[.int .i64 x.kind, .int .i64 x.most, .int .u64 x.n, .string x.text] 33)) (.slice (some ⟨g, 0, none⟩) (l.length + 80) (l.length + 80)) (l ++ List.replicate 80 165)) := Bytes_upd HGr.out ((Upd.refl (fun _ => False) wr).alloc _) (fun _ _ h => h)
          have z2 : (wr.alloc (.cells #[.int .i64 x.kind, .int .i64 x.most, .int .u64 x.n, .string x.text] 33)).cell? ⟨wr.heap.size, 2, none⟩ = some (.int .u64 x.n) := by simp [World.cell?_alloc_at]
          have z1 : (wr.alloc (.cells #[.int .i64 x.kind, .int .i64 x.most, .int .u64 x.n, .string x.text] 33)).cell? ⟨wr.heap.size, 1, none⟩ = some (.int .i64 x.most) := by simp [World.cell?_alloc_at]
          have hxa : wr.heap.size ≠ a := by have := HTr.out.rd.lt; omega
          have hxb : wr.heap.size ≠ b := by omega
          generalize wr.alloc (.cells #[.int .i64 x.kind, .int .i64 x.most, .int .u64 x.n, .string x.text] 33) = wz at *
          generalize wr.heap.size = xb at *
          clear p0 p1 p2 p3
          go_wp2_with fail
          refine (rsigned_any a vs r _ HTz.out.rd).mono ?_
          rintro e wA ⟨rfl, hpA⟩
          have hA1 := HTz.out.one HTSr.out hpA
          have HA1 := Lib.hid hA1
          have HPA := Lib.hid hpA
          clear hA1 hpA
          go_wp2_with fail
          refine (fsigned_any b _ r _ HA1.out.2.1).mono ?_
          rintro e wB ⟨rfl, hpB⟩
          have hpA := HPA.out
          have h1 := HTz.out.one HTSr.out hpA
          have HTB := Lib.hid (Two.two (l := r) h1 HTSr.out hpB)
          have HGA2 := Bytes_upd (Bytes_upd HGz.out (Upd.drewN (Upd.refl (fun _ => False) wz) 0) (fun _ _ h => h)) hpA.2 (fun k hk e => by simp [Value.ownBlock] at hk; exact HTS.out.ga (hk.trans e))
          have HGB2 := Lib.hid (Bytes_upd HGA2 hpB.2 (fun k hk e => by simp [Value.ownBlock] at hk; exact HTS.out.gb (hk.trans e)))
          have HLB : Hid (r.signed.1.l = l) := by show _ = _; rw [RS.signed_l]; exact HRL.out
          clear hpA hpB h1 HGA2
          go_wp2_with fail
          refine (rend_any a vs r.signed.1 _ HTB.out.rd).mono ?_
          rintro e w5 ⟨rfl, n5, rfl⟩
          go_wp2_with fail
          refine (fend_any b _ r.signed.1 _ (HTB.out.drewN n5).rf).mono ?_
          rintro e w6 ⟨rfl, n6, rfl⟩
          go_wp2_with fail
          refine (rleft_any a vs r.signed.1 _ (HTB.out.drewN _).rd).mono ?_
          rintro e w7 ⟨rfl, n7, rfl⟩
          go_wp2_with fail
          refine (fleft_any b _ r.signed.1 _ (HTB.out.drewN _).rf).mono ?_
          rintro e w8 ⟨rfl, n8, rfl⟩
          go_wp2
          go_roundw
          case rel => exact ⟨k + 1, _, by go_num, by omega, by omega, HLB.out, HTB.out.drewN _, Bytes_drewN HGB2.out _⟩
          case measure => simp [intOf]; omega
        have s2 : (x.kind == 2) = false := by simp [q2]
        by_cases q3 : x.kind = 3
        · have s3 : (x.kind == 3) = true := by simp [q3]
          clear q3
          go_wp2
          have HTz : Hid (Two w (wr.alloc (.cells #[.int .i64 x.kind, .int .i64 x.most, .int .u64 x.n, .string x.text] 33)) a b vs (.slice aov l.length capv) r) := HTr.out.alloc _
          have HGz : Hid (Bytes (wr.alloc (.cells #[.int .i64 x.kind, .int .i64 x.most, .int .u64 x.n, .string x.text] 33)) (.slice (some ⟨g, 0, none⟩) (l.length + 80) (l.length + 80)) (l ++ List.replicate 80 165)) := Bytes_upd HGr.out ((Upd.refl (fun _ => False) wr).alloc _) (fun _ _ h => h)
          have z2 : (wr.alloc (.cells #[.int .i64 x.kind, .int .i64 x.most, .int .u64 x.n, .string x.text] 33)).cell? ⟨wr.heap.size, 2, none⟩ = some (.int .u64 x.n) := by simp [World.cell?_alloc_at]
          have z1 : (wr.alloc (.cells #[.int .i64 x.kind, .int .i64 x.most, .int .u64 x.n, .string x.text] 33)).cell? ⟨wr.heap.size, 1, none⟩ = some (.int .i64 x.most) := by simp [World.cell?_alloc_at]
          have hxa : wr.heap.size ≠ a := by have := HTr.out.rd.lt; omega
          have hxb : wr.heap.size ≠ b := by omega
          generalize wr.alloc (.cells #[.int .i64 x.kind, .int .i64 x.most, .int .u64 x.n, .string x.text] 33) = wz at *
          generalize wr.heap.size = xb at *
          clear p0 p1 p2 p3
          go_region_held3 (fun w' => w'.cell? ⟨xb, 1, none⟩ = some (.int .i64 x.most))
            (first | go_keep | (exact hpA.2.cell_some (by assumption) hxa) | (exact hpB.2.cell_some (by assumption) hxb))
            ((first
              | (go_at_call 30; refine (rtext_any a vs r x.most _ HTz.out.drew.rd m1).mono ?_; rintro e wA ⟨rfl, hpA⟩)
              | (go_at_call 37; refine (ftext_any b _ r x.most _ (HTz.out.drew.one HTSr.out hpA).2.1 m1).mono ?_; rintro e wB ⟨rfl, hpB⟩)))
          have h1 := HTz.out.drew.one HTSr.out hpA
          have HTB := Lib.hid (Two.two (l := r) h1 HTSr.out hpB)
          have HGA2 := Bytes_upd (Bytes_upd HGz.out (Upd.drewN (Upd.refl (fun _ => False) wz) 1) (fun _ _ h => h)) hpA.2 (fun k hk e => by simp [Value.ownBlock] at hk; exact HTS.out.ga (hk.trans e))
          have HGB2 := Lib.hid (Bytes_upd HGA2 hpB.2 (fun k hk e => by simp [Value.ownBlock] at hk; exact HTS.out.gb (hk.trans e)))
          have HLB : Hid ((r.text x.most).1.l = l) := by show _ = _; rw [RS.text_l]; exact HRL.out
          clear hpA hpB h1 HGA2
          go_wp2_with fail
          refine (rend_any a vs (r.text x.most).1 _ HTB.out.rd).mono ?_
          rintro e w5 ⟨rfl, n5, rfl⟩
          go_wp2_with fail
          refine (fend_any b _ (r.text x.most).1 _ (HTB.out.drewN n5).rf).mono ?_
          rintro e w6 ⟨rfl, n6, rfl⟩
          go_wp2_with fail
          refine (rleft_any a vs (r.text x.most).1 _ (HTB.out.drewN _).rd).mono ?_
          rintro e w7 ⟨rfl, n7, rfl⟩
          go_wp2_with fail
          refine (fleft_any b _ (r.text x.most).1 _ (HTB.out.drewN _).rf).mono ?_
          rintro e w8 ⟨rfl, n8, rfl⟩
          go_wp2
          go_roundw
          case rel => exact ⟨k + 1, _, by go_num, by omega, by omega, HLB.out, HTB.out.drewN _, Bytes_drewN HGB2.out _⟩
          case measure => simp [intOf]; omega
        have s3 : (x.kind == 3) = false := by simp [q3]
        by_cases q4 : x.kind = 4
        · have s4 : (x.kind == 4) = true := by simp [q4]
          clear q4
          go_wp2
          have HTz : Hid (Two w (wr.alloc (.cells #[.int .i64 x.kind, .int .i64 x.most, .int .u64 x.n, .string x.text] 33)) a b vs (.slice aov l.length capv) r) := HTr.out.alloc _
          have HGz : Hid (Bytes (wr.alloc (.cells #[.int .i64 x.kind, .int .i64 x.most, .int .u64 x.n, .string x.text] 33)) (.slice (some ⟨g, 0, none⟩) (l.length + 80) (l.length + 80)) (l ++ List.replicate 80 165)) := Bytes_upd HGr.out ((Upd.refl (fun _ => False) wr).alloc _) (fun _ _ h => h)
          have z2 : (wr.alloc (.cells #[.int .i64 x.kind, .int .i64 x.most, .int .u64 x.n, .string x.text] 33)).cell? ⟨wr.heap.size, 2, none⟩ = some (.int .u64 x.n) := by simp [World.cell?_alloc_at]
          have z1 : (wr.alloc (.cells #[.int .i64 x.kind, .int .i64 x.most, .int .u64 x.n, .string x.text] 33)).cell? ⟨wr.heap.size, 1, none⟩ = some (.int .i64 x.most) := by simp [World.cell?_alloc_at]
          have hxa : wr.heap.size ≠ a := by have := HTr.out.rd.lt; omega
          have hxb : wr.heap.size ≠ b := by omega
          generalize wr.alloc (.cells #[.int .i64 x.kind, .int .i64 x.most, .int .u64 x.n, .string x.text] 33) = wz at *
          generalize wr.heap.size = xb at *
          clear p0 p1 p2 p3
          have hmx : x.most = x.most := rfl
          go_upto_region 21 with fail
          go_cut [83] from 26 to 114 (fun t wx => t = .bool false ∧ Two w wx a b vs (.slice aov l.length capv) (r.take (max x.most 0)) ∧ Bytes wx (.slice (some ⟨g, 0, none⟩) (l.length + 80) (l.length + 80)) (l ++ List.replicate 80 165))
          case first =>
            go_region_with ((first
              | (go_at_call 25; refine (rraw_any a vs r x.most _ HTz.out.drew.rd m1).mono ?_; rintro e wA ⟨vA, rfl, hoA, hpA⟩; have hzA := hpA.2.cell_some z1 hxa; have hsA := str_of (Bytes_own hoA); have HOA := Lib.hid hoA; clear hoA)
              | (go_at_call 38; refine (frawmax_any b _ r x.most _ (HTz.out.drew.one HTSr.out hpA).2.1 m1).mono ?_; rintro e wB ⟨vB, rfl, hoB, hpB⟩; have hzB := hpB.2.cell_some hzA hxb; have hsB := str_of (Bytes_own hoB); have HOB := Lib.hid hoB; clear hoB; have hsC := str_of (Bytes_upd (Bytes_own HOA.out) hpB.2 (fun k hk e => by have h1 := (HOA.out.lt k hk).1; have h2 := HTz.out.drew.rf.lt; omega)))))
            all_goals (
              have h1 := HTz.out.drew.one HTSr.out hpA
              have HTB := Lib.hid (Two.two (l := r) h1 HTSr.out hpB)
              have HGA2 := Bytes_upd (Bytes_upd HGz.out (Upd.drewN (Upd.refl (fun _ => False) wz) 1) (fun _ _ h => h)) hpA.2 (fun k hk e => by simp [Value.ownBlock] at hk; exact HTS.out.ga (hk.trans e))
              have HGB2 := Lib.hid (Bytes_upd HGA2 hpB.2 (fun k hk e => by simp [Value.ownBlock] at hk; exact HTS.out.gb (hk.trans e)))
              clear hpA hpB h1 HGA2
              go_wp2_with fail
              go_meet
              exact ⟨rfl, HTB.out, HGB2.out⟩)
          case rest =>
          obtain ⟨rfl, htx, hgx⟩ := hcut
          have HTB := Lib.hid htx
          have HGB2 := Lib.hid hgx
          have HLB : Hid ((r.take (max x.most 0)).l = l) := by show _ = _; rw [RS.take_l]; exact HRL.out
          clear htx hgx
          go_wp2_with fail
          refine (rend_any a vs (r.take (max x.most 0)) _ HTB.out.rd).mono ?_
          rintro e w5 ⟨rfl, n5, rfl⟩
          go_wp2_with fail
          refine (fend_any b _ (r.take (max x.most 0)) _ (HTB.out.drewN n5).rf).mono ?_
          rintro e w6 ⟨rfl, n6, rfl⟩
          go_wp2_with fail
          refine (rleft_any a vs (r.take (max x.most 0)) _ (HTB.out.drewN _).rd).mono ?_
          rintro e w7 ⟨rfl, n7, rfl⟩
          go_wp2_with fail
          refine (fleft_any b _ (r.take (max x.most 0)) _ (HTB.out.drewN _).rf).mono ?_
          rintro e w8 ⟨rfl, n8, rfl⟩
          go_wp2
          go_roundw
          case rel => exact ⟨k + 1, _, by go_num, by omega, by omega, HLB.out, HTB.out.drewN _, Bytes_drewN HGB2.out _⟩
          case measure => simp [intOf]; omega
        have s4 : (x.kind == 4) = false := by simp [q4]
        by_cases q5 : x.kind = 5
        · have s5 : (x.kind == 5) = true := by simp [q5]
          clear q5
          go_wp2_with fail
          have HTz : Hid (Two w (wr.alloc (.cells #[.int .i64 x.kind, .int .i64 x.most, .int .u64 x.n, .string x.text] 33)) a b vs (.slice aov l.length capv) r) := HTr.out.alloc _
          have HGz : Hid (Bytes (wr.alloc (.cells #[.int .i64 x.kind, .int .i64 x.most, .int .u64 x.n, .string x.text] 33)) (.slice (some ⟨g, 0, none⟩) (l.length + 80) (l.length + 80)) (l ++ List.replicate 80 165)) := Bytes_upd HGr.out ((Upd.refl (fun _ => False) wr).alloc _) (fun _ _ h => h)
          have z2 : (wr.alloc (.cells #[.int .i64 x.kind, .int .i64 x.most, .int .u64 x.n, .string x.text] 33)).cell? ⟨wr.heap.size, 2, none⟩ = some (.int .u64 x.n) := by simp [World.cell?_alloc_at]
          have z1 : (wr.alloc (.cells #[.int .i64 x.kind, .int .i64 x.most, .int .u64 x.n, .string x.text] 33)).cell? ⟨wr.heap.size, 1, none⟩ = some (.int .i64 x.most) := by simp [World.cell?_alloc_at]
          have hxa : wr.heap.size ≠ a := by have := HTr.out.rd.lt; omega
          have hxb : wr.heap.size ≠ b := by omega
          generalize wr.alloc (.cells #[.int .i64 x.kind, .int .i64 x.most, .int .u64 x.n, .string x.text] 33) = wz at *
          generalize wr.heap.size = xb at *
          clear p0 p1 p2 p3
          go_wp2_with fail
          refine (rfail_any a vs r 13 _ HTz.out.rd).mono ?_
          rintro e wA ⟨rfl, hpA⟩
          have hA1 := HTz.out.one HTSr.out hpA
          have HA1 := Lib.hid hA1
          have HPA := Lib.hid hpA
          clear hA1 hpA
          go_wp2_with fail
          refine (ffail_any b _ r 13 _ HA1.out.2.1 (by omega)).mono ?_
          rintro e wB ⟨rfl, hpB⟩
          have hpA := HPA.out
          have h1 := HTz.out.one HTSr.out hpA
          have HTB := Lib.hid (Two.two (l := r) h1 HTSr.out hpB)
          have HGA2 := Bytes_upd (Bytes_upd HGz.out (Upd.drewN (Upd.refl (fun _ => False) wz) 0) (fun _ _ h => h)) hpA.2 (fun k hk e => by simp [Value.ownBlock] at hk; exact HTS.out.ga (hk.trans e))
          have HGB2 := Lib.hid (Bytes_upd HGA2 hpB.2 (fun k hk e => by simp [Value.ownBlock] at hk; exact HTS.out.gb (hk.trans e)))
          have HLB : Hid ((r.refuse 13 r.p).l = l) := by show _ = _; rw [RS.refuse_l]; exact HRL.out
          clear hpA hpB h1 HGA2
          go_wp2_with fail
          refine (rend_any a vs (r.refuse 13 r.p) _ HTB.out.rd).mono ?_
          rintro e w5 ⟨rfl, n5, rfl⟩
          go_wp2_with fail
          refine (fend_any b _ (r.refuse 13 r.p) _ (HTB.out.drewN n5).rf).mono ?_
          rintro e w6 ⟨rfl, n6, rfl⟩
          go_wp2_with fail
          refine (rleft_any a vs (r.refuse 13 r.p) _ (HTB.out.drewN _).rd).mono ?_
          rintro e w7 ⟨rfl, n7, rfl⟩
          go_wp2_with fail
          refine (fleft_any b _ (r.refuse 13 r.p) _ (HTB.out.drewN _).rf).mono ?_
          rintro e w8 ⟨rfl, n8, rfl⟩
          go_wp2
          go_roundw
          case rel => exact ⟨k + 1, _, by go_num, by omega, by omega, HLB.out, HTB.out.drewN _, Bytes_drewN HGB2.out _⟩
          case measure => simp [intOf]; omega
        have s5 : (x.kind == 5) = false := by simp [q5]
        clear q1 q2 q3 q4 q5
        go_wp2_with fail
        have HTz : Hid (Two w (wr.alloc (.cells #[.int .i64 x.kind, .int .i64 x.most, .int .u64 x.n, .string x.text] 33)) a b vs (.slice aov l.length capv) r) := HTr.out.alloc _
        have HGz : Hid (Bytes (wr.alloc (.cells #[.int .i64 x.kind, .int .i64 x.most, .int .u64 x.n, .string x.text] 33)) (.slice (some ⟨g, 0, none⟩) (l.length + 80) (l.length + 80)) (l ++ List.replicate 80 165)) := Bytes_upd HGr.out ((Upd.refl (fun _ => False) wr).alloc _) (fun _ _ h => h)
        have z2 : (wr.alloc (.cells #[.int .i64 x.kind, .int .i64 x.most, .int .u64 x.n, .string x.text] 33)).cell? ⟨wr.heap.size, 2, none⟩ = some (.int .u64 x.n) := by simp [World.cell?_alloc_at]
        have z1 : (wr.alloc (.cells #[.int .i64 x.kind, .int .i64 x.most, .int .u64 x.n, .string x.text] 33)).cell? ⟨wr.heap.size, 1, none⟩ = some (.int .i64 x.most) := by simp [World.cell?_alloc_at]
        have hxa : wr.heap.size ≠ a := by have := HTr.out.rd.lt; omega
        have hxb : wr.heap.size ≠ b := by omega
        generalize wr.alloc (.cells #[.int .i64 x.kind, .int .i64 x.most, .int .u64 x.n, .string x.text] 33) = wz at *
        generalize wr.heap.size = xb at *
        clear p0 p1 p2 p3
        have HTB := HTz
        have HGB2 := HGz
        have HLB := HRL
        go_wp2_with fail
        refine (rend_any a vs r _ HTB.out.rd).mono ?_
        rintro e w5 ⟨rfl, n5, rfl⟩
        go_wp2_with fail
        refine (fend_any b _ r _ (HTB.out.drewN n5).rf).mono ?_
        rintro e w6 ⟨rfl, n6, rfl⟩
        go_wp2_with fail
        refine (rleft_any a vs r _ (HTB.out.drewN _).rd).mono ?_
        rintro e w7 ⟨rfl, n7, rfl⟩
        go_wp2_with fail
        refine (fleft_any b _ r _ (HTB.out.drewN _).rf).mono ?_
        rintro e w8 ⟨rfl, n8, rfl⟩
        go_wp2
        go_roundw
        case rel => exact ⟨k + 1, _, by go_num, by omega, by omega, HLB.out, HTB.out.drewN _, Bytes_drewN HGB2.out _⟩
        case measure => simp [intOf]; omega
      · have hk30' : 30 ≤ k := by omega
        have f1 : decide (k < L.length) = true := by simp [hlt]
        go_wp2_with fail
        refine (intact_eq _ _ l _ HGr.out (Bytes_upd HB0.out HTr.out.upd (fun _ _ h => h)) (by omega)).mono ?_
        rintro e w3 ⟨rfl, n3, rfl⟩
        go_wp2_with fail
        refine (known_any _).mono ?_
        rintro e w4 ⟨rfl, hu4⟩
        have HU4 := Lib.hid hu4
        clear hu4
        go_wp2
        go_ret
        exact ⟨rfl, (HTr.out.upd.drewN n3).trans' HU4.out⟩
    · have f1 : decide (k < L.length) = false := by simp; omega
      clear hlt
      go_wp2_with fail
      refine (intact_eq _ _ l _ HGr.out (Bytes_upd HB0.out HTr.out.upd (fun _ _ h => h)) (by omega)).mono ?_
      rintro e w3 ⟨rfl, n3, rfl⟩
      go_wp2_with fail
      refine (known_any _).mono ?_
      rintro e w4 ⟨rfl, hu4⟩
      have HU4 := Lib.hid hu4
      clear hu4
      go_wp2
      go_ret
      exact ⟨rfl, (HTr.out.upd.drewN n3).trans' HU4.out⟩
end Go.Proofs.Ytbpeoclhabgcgaa
