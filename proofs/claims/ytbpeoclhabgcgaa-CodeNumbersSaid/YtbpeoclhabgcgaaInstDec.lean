import Derived.Test.YtbpeoclhabgcgaaInstRef
import Derived.Test.YtbpeoclhabgcgaaOne
import Derived.Test.YtbpeoclhabgcgaaWire7
import Derived.ScopeJumps
namespace Go.Proofs.Ytbpeoclhabgcgaa
open Go.RowKit
set_option linter.unusedVariables false
set_option linter.unusedSimpArgs false
/-- A scope whose one label stands behind three pieces. -/
theorem wp_scope_three {P : Program} {a : Act} {w : World} {Q : Exit → Act → World → Prop} {c1 c2 c3 c : Code} (l : Nat) (J : Act → World → Prop) (μ : Act → World → Nat)
    (h1 : findLabel c1 l = none) (h2 : findLabel c2 l = none) (h3 : findLabel c3 l = none)
    (first : ∀ r : Code, (∀ a w, J a w → r.wp P (Exit.jump l J Q) a w) → (Code.seq c1 (.seq c2 (.seq c3 r))).wp P (Exit.jump l J Q) a w)
    (pass : ∀ a w, J a w → c.wp P (Exit.jump l (fun a' w' => J a' w' ∧ μ a' w' < μ a w) Q) a w) : (Code.scope (.seq c1 (.seq c2 (.seq c3 (.seq (.label l) c))))).wp P Q a w := by
  refine wp_scope_jumps (rest := .seq .skip c) l J μ (by simp [findLabel, h1, h2, h3]) ?_ (fun a w h => wp_seq (wp_skip (pass a w h)))
  refine first _ fun a' w' h => ?_
  refine wp_seq (wp_label ?_)
  refine wp_mono (pass a' w' h) ?_
  intro e a' w' h
  cases e with
  | goto l' => exact ⟨h.1, h.2.1⟩
  | normal => exact h
  | exit i => exact h
  | ret => exact h
  | panic c => exact h
  | outgrown => exact h
theorem bytes_drop {w : World} {ao : Option Addr} {cap p : Nat} {l : List UInt8} (h : Bytes w (.slice ao l.length cap) l) (hp : p ≤ l.length) : Bytes w (.slice (ao.map (fun x => x.add p)) (l.length - p) (cap - p)) (l.drop p) := by
  obtain ⟨ao', cap', e, h1, h2, h3⟩ := h
  injection e with e1 e2 e3; subst e1 e3
  refine ⟨_, _, by rw [List.length_drop], by rw [List.length_drop]; omega, by omega, ?_⟩
  rcases h3 with rfl | ⟨b, off, rfl, hc⟩
  · exact .inl (by simp)
  · refine .inr ⟨b, off + p, by simp [Addr.add], fun i hi => ?_⟩
    rw [List.length_drop] at hi
    have := hc (p + i) (by omega)
    rw [List.getElem_drop, Nat.add_assoc]
    exact this
/-- An instruction in a block of its own, its places in another. -/
structure DI (wr : World) (k7 : Nat) (vt : Value) (i : IV) (wx : World) : Prop where
  row : Row wx k7 83 (i.cells vt)
  own : wx.ownsRow wr.heap.size 3 1 vt i.tos.length (intsV i.tos)
  upd : Upd (fun _ => False) wr wx
  lt : ∀ k, vt.ownBlock = some k → wr.heap.size ≤ k ∧ k < k7
  ge : wr.heap.size ≤ k7
theorem DI.start {wr w1 : World} {vt : Value} (i : IV) (hu : Upd (fun _ => False) wr w1) (ho : w1.ownsRow wr.heap.size 3 1 vt i.tos.length (intsV i.tos)) : DI wr w1.heap.size vt i (w1.alloc (.cells (i.cells vt).toArray 83)) := by
  have hu2 : Upd (fun _ => False) w1 (w1.alloc (.cells (i.cells vt).toArray 83)) := (Upd.refl _ w1).alloc _
  exact ⟨heap_alloc_new w1 _, ownsRow_upd ho hu2 (fun _ _ h => h), hu.trans' hu2, fun k hk => own_ge ho hk, hu.size⟩
theorem DI.place {wr wx : World} {k7 g cap n : Nat} {i : IV} (h : DI wr k7 (.slice (some ⟨g, 0, none⟩) n cap) i wx) (q : Nat) (hq : q < i.tos.length) (z : Int) : DI wr k7 (.slice (some ⟨g, 0, none⟩) n cap) { i with tos := i.tos.set q z } (wx.setCell ⟨g, q, none⟩ (.int .i64 z)) := by
  have hg := h.lt g rfl
  have hu : Upd (fun k => k = g) wx (wx.setCell ⟨g, q, none⟩ (.int .i64 z)) := (Upd.refl (fun k => k = g) wx).setCell (p := ⟨g, q, none⟩) (fun _ => rfl) _
  exact ⟨h.row.upd hu (fun e => by omega), own_set h.own q hq z, h.upd.trans hu (fun k hk e => by omega), h.lt, h.ge⟩
theorem DI.mem {w wr wx : World} {k7 : Nat} {lv vt : Value} {acc : List IV} {i : IV} (h : DI wr k7 vt i wx) (ho : LW wr w.heap.size 83 lv acc) (hu : Upd (fun _ => False) w wr) :
    LW (wx.alloc (.cells (i.cells vt).toArray 83)) w.heap.size 83 lv acc ∧ Row (wx.alloc (.cells (i.cells vt).toArray 83)) wx.heap.size 83 (i.cells vt) ∧ Ints (wx.alloc (.cells (i.cells vt).toArray 83)) vt i.tos ∧
    (∀ k, vt.ownBlock = some k → w.heap.size ≤ k ∧ k < (wx.alloc (.cells (i.cells vt).toArray 83)).heap.size ∧ lv.ownBlock ≠ some k) ∧ Upd (fun _ => False) w (wx.alloc (.cells (i.cells vt).toArray 83)) := by
  have hu2 : Upd (fun _ => False) wx (wx.alloc (.cells (i.cells vt).toArray 83)) := (Upd.refl _ wx).alloc _
  refine ⟨ho.upd (h.upd.trans' hu2) (fun _ _ h => h) (fun _ _ _ _ h => h), heap_alloc_new wx _, (Ints_own h.own).upd hu2 (fun _ _ h => h), fun k hk => ?_, hu.trans' (h.upd.trans' hu2)⟩
  have h1 := own_ge h.own hk
  have h2 := hu.size
  have h3 := hu2.size
  have h4 := h.lt k hk
  exact ⟨by omega, by omega, fun e => by have := (ho.lt e).2; omega⟩
theorem oneC_tos (s : List UInt8) : ∀ t ∈ (oneC s).2.1.tos, 0 ≤ t ∧ t < 65536 := words_range _ _
theorem shift_range {l : List Int} {z : Int} (h : ∀ t ∈ l, 0 ≤ t ∧ t < 65536) (h0 : 0 ≤ z) (h1 : z ≤ 2048) : ∀ t ∈ l.map (· + z), 0 ≤ t ∧ t < 70000 := by
  intro t ht
  obtain ⟨u, hu, rfl⟩ := List.mem_map.1 ht
  have := h u hu
  show 0 ≤ u + z ∧ u + z < 70000
  omega
/-- What holds at each jump back in code.Decode. -/
def DecJ (v : Value) (l : List UInt8) (w0 : World) (A : Act) (w : World) : Prop :=
  ∃ (p n : Nat) (acc : List IV) (lv u1 u2 u3 u4 u7 u8 u9 u10 u11 u12 u13 u14 u15 u16 u17 u18 u19 u20 u21 u22 u23 u24 u25 u26 u27 u28 u29 u30 u31 u32 u33 u34 u35 u36 u37 u38 u39 u40 u41 u42 u43 u44 u45 u46 u47 u48 u49 u50 u51 u52 u53 u54 u55 u56 : Value), A = { tmps := #[v, u1, u2, u3, u4, lv, .int .i64 (p : Int), u7, u8, u9, u10, u11, u12, u13, u14, u15, u16, u17, u18, u19, u20, u21, u22, u23, u24, u25, u26, u27, u28, u29, u30, u31, u32, u33, u34, u35, u36, u37, u38, u39, u40, u41, u42, u43, u44, u45, u46, u47, u48, u49, u50, u51, u52, u53, u54, u55, u56], defers := [] } ∧
    l.length ≤ 2048 ∧ runN l n = some (acc, p) ∧ LW w w0.heap.size 83 lv acc ∧ Upd (fun _ => False) w0 w
set_option maxHeartbeats 8000000 in
set_option maxRecDepth 100000 in
/-- code.Decode. -/
theorem cdec_any (v : Value) (l : List UInt8) (w : World) (hb : Bytes w v l) (h63 : l.length ≤ 9223372036854775807) :
    Calls Try.prog 43 #[v] w (DecP l w) := by
  have HB := Lib.hid hb
  obtain ⟨ao, cap, rfl, _⟩ := hb
  go_enter Try.func43, Try.ntmps43
  refine wp_seq_k fun K hK => ?_
  go_wp2
  refine wp_scope_three 0 (DecJ (.slice ao l.length cap) l w) (fun A _ => l.length - (intOf (A.tmps.getD 6 undef)).toNat) rfl rfl rfl ?_ ?_
  · intro r hr
    have HR := Lib.hid hr
    clear hr
    by_cases hl : l.length ≤ 2048
    · have k0 : decide ((2048 : Int) < (l.length : Int)) = false := by simp; omega
      refine wp_seq_k fun K hK => ?_
      go_wp2
      exact HR.out _ _ ⟨0, 0, [], _, _, _, _, _, _, _, _, _, _, _, _, _, _, _, _, _, _, _, _, _, _, _, _, _, _, _, _, _, _, _, _, _, _, _, _, _, _, _, _, _, _, _, _, _, _, _, _, _, _, _, _, _, _, _, rfl, hl, rfl, LW.nil _ _ _, Upd.refl _ w⟩
    · have k0 : decide ((2048 : Int) < (l.length : Int)) = true := by simp; omega
      refine wp_seq_k fun K hK => ?_
      go_wp2
      simp only [Exit.jump]
      go_ret3
      exact ⟨Upd.refl _ w, _, [], _, _, .inl ⟨by omega, rfl, rfl, rfl⟩, IL.empty _, by simp, rfl⟩
  · intro A wa HJ
    obtain ⟨p, n, acc, lv, u1, u2, u3, u4, u7, u8, u9, u10, u11, u12, u13, u14, u15, u16, u17, u18, u19, u20, u21, u22, u23, u24, u25, u26, u27, u28, u29, u30, u31, u32, u33, u34, u35, u36, u37, u38, u39, u40, u41, u42, u43, u44, u45, u46, u47, u48, u49, u50, u51, u52, u53, u54, u55, u56, rfl, hl, hn, ho, hu⟩ := HJ
    obtain ⟨f1, f2, f3⟩ := runN_facts hn
    have HO := Lib.hid ho
    have HU := Lib.hid hu
    have HN := Lib.hid hn
    have HF := Lib.hid f3
    clear ho hu hn f3
    by_cases hlt : p < l.length
    · have k1 : decide (p = l.length) = false := by simp; omega
      have HBD := Lib.hid (bytes_drop (Bytes_upd HB.out HU.out (fun _ _ h => h)) (Nat.le_of_lt hlt))
      have HL := Lib.hid (one_law hlt)
      have HT := Lib.hid (oneC_tos (l.drop p))
      go_wp2_with fail
      refine (cone_any _ (l.drop p) _ HBD.out (by rw [List.length_drop]; omega) (by rw [List.length_drop]; omega)).mono ?_
      rintro e w1 ⟨hu1, ⟨hok, vt, rfl, ho1⟩ | ⟨hbad, rfl⟩⟩
      · have HU1 := Lib.hid hu1
        obtain ⟨h0, hp', hs1, hpl, hI⟩ : (oneR l p).1 = 0 ∧ ((oneR l p).2.1.p : Int) = sizeC (l.drop p) + p ∧ 1 ≤ sizeC (l.drop p) ∧ (oneR l p).2.1.p ≤ l.length ∧
            (oneR l p).2.2 = { (oneC (l.drop p)).2.1 with at_ := (p : Int), tos := ((oneC (l.drop p)).2.1.tos.map (· + sizeC (l.drop p))).map (· + (p : Int)) } := by
          rcases HL.out with ⟨a, _, b, c, d, e⟩ | ⟨_, hn, _⟩
          · exact ⟨a, b, c, d, e⟩
          · exact absurd hok hn
        have hs := runN_step HN.out hlt h0
        rw [hI] at hs
        obtain ⟨p', hp2⟩ : ∃ p', p' = (oneR l p).2.1.p := ⟨_, rfl⟩
        rw [← hp2] at hs hp' hpl
        obtain ⟨S, hS⟩ : ∃ S, S = sizeC (l.drop p) := ⟨_, rfl⟩
        rw [← hS] at hs hp' hs1 ho1 ⊢
        obtain ⟨rf, hrf⟩ : ∃ rf, rf = (oneC (l.drop p)).2.2 := ⟨_, rfl⟩
        rw [← hrf]
        have hT := HT.out
        obtain ⟨I, hI2⟩ : ∃ I, I = (oneC (l.drop p)).2.1 := ⟨_, rfl⟩
        rw [← hI2] at hs ho1 hT ⊢
        clear HL HT hok hI hp2 hS hrf hI2 h0 HBD
        obtain ⟨a0, op, A, B, x, y, tx, tos0⟩ := I
        simp only at hs ho1 hT ⊢
        have HTR := Lib.hid (shift_range hT (by omega) (show S ≤ 2048 by omega))
        obtain ⟨tos, htos⟩ : ∃ tos, tos = tos0.map (· + S) := ⟨_, rfl⟩
        rw [← htos] at hs ho1 HTR ⊢
        clear htos hT
        have HS := Lib.hid hs
        have HO1 := Lib.hid ho1
        obtain ⟨av, cv, rfl, hcv, hmv, hav⟩ := own_form ho1
        have HAV := Lib.hid hav
        have HD := Lib.hid (DI.start (wr := wa) (w1 := w1) (vt := .slice av tos.length cv) ⟨p, op, A, B, x, y, tx, tos⟩ HU1.out HO1.out)
        have k5 : (tos.length : Int) ≤ 9223372036854775807 := by unfold maxLen at hmv; omega
        have k9 : acc.length ≤ 4096 := by omega
        have k6 : IntKind.i64.wrap ((p : Int) + S) = p' := by rw [IntWalk.i64_in _ (by omega)]; omega
        clear hs ho1 hu1 hav hmv hcv hlt
        simp only [IV.cells] at HD ⊢
        go_wp2_with fail
        go_loopw [38] (fun j wx => ∃ q : Nat, j = .int .i64 q ∧ q ≤ tos.length ∧ DI wa w1.heap.size (.slice av tos.length cv) ⟨p, op, A, B, x, y, tx, shift tos p q⟩ wx) (fun j _ => tos.length - (intOf j).toNat)
        case atStart => exact ⟨0, rfl, by omega, by rw [shift_zero]; exact HD.out⟩
        case round =>
          obtain ⟨q, rfl, hq, hd⟩ := hrel
          have HX := Lib.hid hd
          clear hd HD
          by_cases hlq : q < tos.length
          · obtain ⟨g, rfl⟩ := HAV.out (show 0 < tos.length by omega)
            have z6 := HX.out.row.get (i := 6) rfl
            have gq := own_int' HX.out.own (shift_get (z := p) hlq)
            have fq := own_free HX.out.own q
            have hrg := HTR.out _ (List.getElem_mem hlq)
            have HSS := Lib.hid (shift_set (l := tos) (z := p) hlq)
            have HPL := Lib.hid (HX.out.place q (by rw [show (IV.tos ⟨p, op, A, B, x, y, tx, shift tos p q⟩).length = tos.length from shift_len tos p q]; exact hlq) (tos[q] + p))
            simp only [HSS.out] at HPL
            obtain ⟨t, ht⟩ : ∃ t, t = tos[q] := ⟨_, rfl⟩
            rw [← ht] at gq hrg HPL
            have hwr : IntKind.i64.wrap (t + p) = t + p := IntWalk.i64_in _ (by omega)
            have k0 : (0 : Int) ≤ (q : Int) := by omega
            have k1 : (q : Int) < (tos.length : Int) := by omega
            have k2 : decide (q < tos.length) = true := by simp; omega
            have k3 : q + 1 ≤ tos.length := by omega
            clear ht hlq hq HSS
            go_wp2_with fail
            go_roundw
            case rel => exact ⟨q + 1, by go_num, k3, HPL.out⟩
            case measure => (try simp [intOf]) <;> (try omega)
          · have hq' : q = tos.length := by omega
            subst hq'
            rw [shift_full] at HX
            have c0 := HX.out.row.get (i := 0) rfl
            have c1 := HX.out.row.get (i := 1) rfl
            have c2 := HX.out.row.get (i := 2) rfl
            have c3 := HX.out.row.get (i := 3) rfl
            have c4 := HX.out.row.get (i := 4) rfl
            have c5 := HX.out.row.get (i := 5) rfl
            have c6 := HX.out.row.get (i := 6) rfl
            have HW := Lib.hid (HX.out.mem HO.out HU.out)
            simp only [IV.cells] at HW
            clear hlq hq
            go_wp2_with (at_builtin; go_loud (refine wpList_push (w0 := w) rfl (.tmp 50) (.tmp 52) 69 69 83 rfl Try.underlying69 Try.underlying69 info83 rfl HW.out.1 (k := wr.heap.size) (e' := 83) (i := ⟨p, op, A, B, x, y, tx, tos.map (· + (p : Int))⟩) (v := .slice av tos.length cv) HW.out.2.1 rfl HW.out.2.2.1 HW.out.2.2.2.1 k9 HW.out.2.2.2.2 ?c1))
            case c1 =>
            intro v' w' q1 q2
            have HQ1 := Lib.hid q1
            have HQ2 := Lib.hid q2
            clear q1 q2
            go_wp2_with fail
            rw [← hp']
            apply wp_goto
            refine ⟨rfl, ⟨p', n + 1, _, _, _, _, _, _, _, _, _, _, _, _, _, _, _, _, _, _, _, _, _, _, _, _, _, _, _, _, _, _, _, _, _, _, _, _, _, _, _, _, _, _, _, _, _, _, _, _, _, _, _, _, _, _, _, _, rfl, hl, HS.out, HQ1.out, HQ2.out⟩, ?_⟩
            (try simp [intOf]) <;> (try omega)
      · obtain ⟨E, hE⟩ : ∃ E : Int, E = (if (oneC (l.drop p)).1.fin.1 = 10 then 10 else 12) := ⟨_, rfl⟩
        have hE0 : E ≠ 0 := by rw [hE]; split <;> decide
        have hR : (oneR l p).1 = E := by
          rcases HL.out with ⟨_, hn, _⟩ | ⟨_, _, h⟩
          · exact absurd hn hbad
          · rw [h, hE]
        rw [show ivZ.cells (.slice none 0 0) = _ from zero_cells, ← hE]
        clear HL HT hbad hE HBD
        have HR := Lib.hid hR
        clear hR
        go_wp2_with fail
        go_ret3
        exact ⟨HU.out.trans' (hu1.alloc _), _, [], _, _, .inr ⟨hl, n, acc, p, HN.out, .inr ⟨hlt, by rw [HR.out]; exact hE0, rfl, HR.out.symm, rfl⟩⟩, IL.empty _, by simp, rfl⟩
    · have hp : p = l.length := by omega
      go_wp2_with fail
      go_ret3
      exact ⟨HU.out, _, acc, _, _, .inr ⟨hl, n, acc, p, HN.out, .inl ⟨hp, rfl, rfl, rfl⟩⟩, HO.out.il, HF.out, rfl⟩
end Go.Proofs.Ytbpeoclhabgcgaa
