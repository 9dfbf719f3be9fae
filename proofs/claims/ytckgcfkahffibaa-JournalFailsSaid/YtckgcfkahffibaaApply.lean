import Derived.Test.YtckgcfkahffibaaApp
namespace Go.Proofs.Ytckgcfkahffibaa
open Go.RowKit
set_option linter.unusedVariables false
set_option linter.unusedSimpArgs false
def AJ (S : Nat → Prop) (k : Nat) (ao : Option Addr) (cap : Nat) (d : DS) (l : List (Nat × List UInt8)) (w : World) (n : Nat) (A : Act) (wr : World) : Prop :=
  (n = 0 ∧ d.recv.1.2 = 0 ∧ ∃ g6 i, AJ0 S k g6 i ao cap d l w A wr) ∨ (n = 1 ∧ AJ1 S k d l w A wr)
def Aμ (l : List (Nat × List UInt8)) (n : Nat) (A : Act) (_ : World) : Nat := if n = 0 then l.length - (intOf (A.tmps.getD 7 undef)).toNat + 1 else 0
theorem AJ0.mu {S : Nat → Prop} {k g6 i : Nat} {ao : Option Addr} {cap : Nat} {d : DS} {l : List (Nat × List UInt8)} {w wr : World} {A : Act} (h : AJ0 S k g6 i ao cap d l w A wr) : Aμ l 0 A wr = l.length - i + 1 := by
  obtain ⟨u2, u3, u4, u5, u8, u9, u10, u11, u12, u13, u14, u15, u16, u17, u18, u19, u20, u21, u22, u23, u24, u25, u26, u27, u28, u29, u30, u31, u32, u33, u34, u35, u36, u37, u38, u39, u40, u41, u42, u43, u44, u45, u46, u47, u48, u49, u50, u51, u52, u53, u54, u55, u56, u57, u58, u59, u60, u61, u62, u63, u64, u65, u66, S1, rfl, hj⟩ := h
  rfl
theorem AJ0.lt {S : Nat → Prop} {k g6 i : Nat} {ao : Option Addr} {cap : Nat} {d : DS} {l : List (Nat × List UInt8)} {w wr : World} {A : Act} (h : AJ0 S k g6 i ao cap d l w A wr) : i < l.length := by
  obtain ⟨u2, u3, u4, u5, u8, u9, u10, u11, u12, u13, u14, u15, u16, u17, u18, u19, u20, u21, u22, u23, u24, u25, u26, u27, u28, u29, u30, u31, u32, u33, u34, u35, u36, u37, u38, u39, u40, u41, u42, u43, u44, u45, u46, u47, u48, u49, u50, u51, u52, u53, u54, u55, u56, u57, u58, u59, u60, u61, u62, u63, u64, u65, u66, S1, rfl, hj⟩ := h
  exact hj.lt
set_option maxHeartbeats 2000000 in
set_option maxRecDepth 100000 in
theorem apply_tail (S : Nat → Prop) (k : Nat) (d : DS) (l : List (Nat × List UInt8)) (w : World) (A : Act) (wr : World) (hJ : AJ1 S k d l w A wr) (Q : Exit → Act → World → Prop)
    (qr : ∀ A' w', bodyPost Try.prog Try.f23 (AppP S k (d.app l) w) .ret A' w' → Q .ret A' w') :
    Code.wp Try.prog (rightN 14 (unscope (rightN 1 (Try.f23.body.getD .skip)))) Q A wr := by
  obtain ⟨u1, u2, u3, u4, u6, u7, u8, u9, u10, u11, u12, u13, u14, u15, u16, u17, u18, u19, u20, u21, u22, u23, u24, u25, u26, u27, u28, u29, u30, u31, u32, u33, u34, u35, u36, u37, u38, u39, u40, u41, u42, u43, u44, u45, u46, u47, u48, u49, u50, u51, u52, u53, u54, u55, u56, u57, u58, u59, u60, u61, u62, u63, u64, u65, u66, rfl, hE⟩ := hJ
  have HE := Lib.hid hE
  have QR := Lib.hid qr
  clear hE qr
  generalize hr : (d.app l).1 = er at *
  have HER := Lib.hid hr
  clear hr
  show Code.wp Try.prog (Code.seq _ _) _ _ _
  go_wp2_with fail
  refine QR.out _ _ ?_
  go_ret
  exact ⟨by rw [HER.out]; rfl, HE.out⟩
set_option maxHeartbeats 2000000 in
set_option maxRecDepth 100000 in
theorem apply_dsk (k : Nat) (d : DS) (S : Nat → Prop) (w : World) (h : Dsk w k d S) (hn : d.ws.length ≤ 800000) (v : Value) (l : List (Nat × List UInt8)) (hv : WlR w v l) (ho : ∀ j, v.ownBlock = some j → ¬ S j ∧ j < w.heap.size) (hg : Good l) :
    Calls Try.prog 23 #[.pointer (some ⟨k, 0, none⟩), v] w (AppP S k (d.app l) w) := by
  have hv0 := hv
  have hcap : ∃ ao cap, v = .slice ao l.length cap := by obtain ⟨ao, cap, e, _⟩ := hv; exact ⟨ao, cap, e⟩
  clear hv
  obtain ⟨ao, cap, rfl⟩ := hcap
  have H := Lib.hid h
  have HN := Lib.hid hn
  have HV := Lib.hid hv0
  have HO := Lib.hid ho
  have HG := Lib.hid hg
  clear h hn hv0 ho hg
  go_enter Try.func23, Try.ntmps23
  go_wp2_with fail
  refine wp_scope_fam (fun l' => findLabel (unscope (rightN 1 (Try.f23.body.getD .skip))) l') (AJ S k ao cap d l w) (Aμ l) (fun _ _ h => h) ?first ?pass
  case pass =>
    intro l' rest A wr hl hJ
    have QR : ∀ (R : Nat → Act → World → Prop) A' w', bodyPost Try.prog Try.f23 (AppP S k (d.app l) w) .ret A' w' → Exit.fam R (bodyPost Try.prog Try.f23 (AppP S k (d.app l) w)) .ret A' w' := fun _ _ _ h => h
    rcases hJ with ⟨rfl, h0, g6, i, hJ⟩ | ⟨rfl, hJ⟩
    · have e : findLabel (unscope (rightN 1 (Try.f23.body.getD .skip))) 0 = some (Code.seq .skip (rightN 6 (unscope (rightN 1 (Try.f23.body.getD .skip))))) := rfl
      have hrest : rest = Code.seq .skip (rightN 6 (unscope (rightN 1 (Try.f23.body.getD .skip)))) := Option.some.inj (hl.symm.trans e)
      subst hrest
      refine wp_seq (wp_skip ?_)
      refine apply_body S k g6 i ao cap d l w HG.out h0 HN.out A wr hJ _ (fun A' w' h => ⟨rfl, .inl ⟨rfl, h0, _, _, h⟩, ?_⟩) (fun A' w' h => ⟨rfl, .inr ⟨rfl, h⟩, ?_⟩) (QR _)
      · rw [h.mu, hJ.mu]
        have := h.lt
        omega
      · rw [hJ.mu]
        show 0 < _
        omega
    · have e : findLabel (unscope (rightN 1 (Try.f23.body.getD .skip))) 1 = some (Code.seq .skip (rightN 14 (unscope (rightN 1 (Try.f23.body.getD .skip))))) := rfl
      have hrest : rest = Code.seq .skip (rightN 14 (unscope (rightN 1 (Try.f23.body.getD .skip)))) := Option.some.inj (hl.symm.trans e)
      subst hrest
      refine wp_seq (wp_skip ?_)
      exact apply_tail S k d l w A wr hJ _ (QR _)
  case first =>
  go_wp2_with fail
  refine (right_good k _ l w HV.out HG.out).mono ?_
  rintro e w1 ⟨rfl, hu⟩
  have HD1 := Lib.hid (H.out.upd0 hu)
  have HU1 := Lib.hid hu
  clear hu
  by_cases hnil : l = []
  · subst hnil
    go_wp2_with fail
    go_ret
    exact ⟨rfl, S, HD1.out, HU1.out.mono (fun _ _ h => h.elim), fun j hj => .inl hj⟩
  · have hpos : 0 < l.length := List.length_pos_iff.2 hnil
    have hl0 : ¬ ((l.length : Int) = 0) := by omega
    have hlb : ((l.length : Int) == 0) = false := by simp; omega
    have HNIL := Lib.hid hnil
    have HPOS := Lib.hid hpos
    have hz28 := zero28'
    clear hnil
    go_wp2_with fail
    have hh6 : (w1.alloc (.cells (bytesV (one 0)).toArray 28)).heap[w1.heap.size]? = some (.cells (bytesV (one 0)).toArray 28 (0, 0)) := heap_alloc_new w1 _
    have hu2 : Upd (fun _ => False) w1 (w1.alloc (.cells (bytesV (one 0)).toArray 28)) := (Upd.refl _ w1).alloc _
    have hlt6 : w1.heap.size < (w1.alloc (.cells (bytesV (one 0)).toArray 28)).heap.size := by simp
    generalize w1.alloc (.cells (bytesV (one 0)).toArray 28) = w2 at *
    have HD2 := Lib.hid (HD1.out.upd0 hu2)
    have HU2 := Lib.hid (HU1.out.trans' hu2)
    have HS6 := Lib.hid (show ¬ S w1.heap.size from fun h => by have := HD1.out.lt _ h; omega)
    have HGW := Lib.hid HU1.out.size
    have HH6 := Lib.hid hh6
    have HL6 := Lib.hid hlt6
    generalize w1.heap.size = g6 at *
    clear hh6 hu2 hlt6 hz28
    refine (recover_dsk k d S w2 HD2.out (by have := HN.out; omega)).mono ?_
    rintro e w3 ⟨rfl, S3, hd, hA, hs⟩
    have HD3 := Lib.hid hd
    have HU3 := Lib.hid ((HU2.out.mono (S' := S) (fun _ _ h => h.elim)).trans' hA)
    have HF3 := Lib.hid (show ∀ j, S3 j → S j ∨ w.heap.size ≤ j from fun j hj => (hs j hj).elim .inl (fun h => .inr (Nat.le_trans HU2.out.size h)))
    have HG3 := Lib.hid (show ¬ S3 g6 from fun h => (hs g6 h).elim HS6.out (fun h => by have := HL6.out; omega))
    have HH3 := Lib.hid (hA.heap_some HH6.out HS6.out)
    have HV3 := Lib.hid ((HV.out.upd HU2.out (fun _ _ h => h)).upd hA (fun j hj => (HO.out j hj).1))
    have HO3 := Lib.hid (show ∀ j, (Value.slice ao l.length cap).ownBlock = some j → ¬ S3 j ∧ j < w.heap.size ∧ j ≠ g6 from fun j hj => ⟨fun h => (hs j h).elim (HO.out j hj).1 (fun h => by have := (HO.out j hj).2; have := HU2.out.size; omega), (HO.out j hj).2, by have := (HO.out j hj).2; have := HGW.out; omega⟩)
    clear hd hA hs
    by_cases h0 : d.recv.1.2 = 0
    · have H0 := Lib.hid h0
      rw [h0]
      clear h0
      go_wp2_with fail
      refine wp_label ?_
      dsimp only [Exit.then]
      apply_assumption
      refine apply_body S k g6 0 ao cap d l w HG.out H0.out HN.out _ _ ?_ _ (fun A' w' h => ⟨rfl, .inl ⟨rfl, H0.out, _, _, h⟩⟩) (fun A' w' h => ⟨rfl, .inr ⟨rfl, h⟩⟩) (fun _ _ h => h)
      iterate 64 (apply Exists.intro)
      refine ⟨rfl, HPOS.out, rfl, HD3.out, ⟨_, HH3.out, by simp [bytesV, one], fun j hj => ?_⟩, HU3.out, HF3.out, HG3.out, HV3.out, HO3.out, HGW.out⟩
      rw [List.getElem?_toArray, bytesV_get _ j (by rw [one_len]; exact hj)]
      have e1 : hdB l 0 j = 0 := by
        unfold hdB
        by_cases e : j = 0
        · rw [if_pos e]
        · rw [if_neg e, if_neg (by omega)]
      rw [e1]
      simp only [one, List.getElem_replicate]
    · have HAPP := Lib.hid (show d.app l = (d.recv.1.2, d.recv.2) by unfold DS.app; rw [if_neg HNIL.out, if_pos h0])
      have HE := Lib.hid (show AppE S k (d.app l) w w3 by rw [HAPP.out]; exact ⟨S3, HD3.out, HU3.out, HF3.out⟩)
      have hne : ¬ (d.recv.1.2 = 0) := h0
      generalize hr : d.recv.1.2 = er at *
      have HER := Lib.hid hr
      clear h0 hr
      go_wp2_with fail
      go_ret
      exact ⟨by rw [HAPP.out]; rfl, HE.out⟩
end Go.Proofs.Ytckgcfkahffibaa
