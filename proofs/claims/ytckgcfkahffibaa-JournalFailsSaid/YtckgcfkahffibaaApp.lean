import Derived.Test.YtckgcfkahffibaaRight
import Derived.WalkMore
namespace Go.Proofs.Ytckgcfkahffibaa
open Go.RowKit
set_option linter.unusedVariables false
set_option linter.unusedSimpArgs false
/-- A head's bytes: where the first n of a group's blocks go. -/
def hdB (l : List (Nat × List UInt8)) (n j : Nat) : UInt8 := if j = 0 then 0 else if j ≤ n then UInt8.ofNat ((l[j - 1]?.getD (0, [])).1) else 0
def headB (l : List (Nat × List UInt8)) (j : Nat) : UInt8 := if j = 0 then UInt8.ofNat l.length else hdB l l.length j
def headF (l : List (Nat × List UInt8)) : List UInt8 := (List.range 64).map (headB l)
def logW (l : List (Nat × List UInt8)) : Nat → List (Nat × List UInt8)
  | 0 => []
  | i + 1 => logW l i ++ [(1 + i, (l[i]?.getD (0, [])).2)]
def appW (l : List (Nat × List UInt8)) : List (Nat × List UInt8) := logW l l.length ++ [(0, headF l)]
/-- What Apply answers, and what is there then. -/
def DS.app (d : DS) (l : List (Nat × List UInt8)) : Int × DS :=
  if l = [] then (0, d)
  else if d.recv.1.2 ≠ 0 then (d.recv.1.2, d.recv.2)
  else if (DS.all (appW l) d.recv.2).1 ≠ 0 then DS.all (appW l) d.recv.2
  else ((DS.all (appW l) d.recv.2).2.recv.1.2, (DS.all (appW l) d.recv.2).2.recv.2)
theorem logW_len (l : List (Nat × List UInt8)) : ∀ i, (logW l i).length = i
  | 0 => rfl
  | i + 1 => by simp [logW, logW_len l i]
theorem logW_prefix (l : List (Nat × List UInt8)) (i : Nat) : ∀ n, i ≤ n → ∃ B, logW l n = logW l i ++ B
  | 0, h => ⟨[], by rw [show i = 0 by omega]; simp⟩
  | n + 1, h => by
    by_cases e : i = n + 1
    · exact ⟨[], by rw [e]; simp⟩
    · obtain ⟨B, hB⟩ := logW_prefix l i n (by omega)
      exact ⟨B ++ _, by rw [logW, hB, List.append_assoc]⟩
theorem app_fail {d : DS} {l : List (Nat × List UInt8)} {i : Nat} (hl : l ≠ []) (h0 : d.recv.1.2 = 0) (hi : i ≤ l.length) (h : (DS.all (logW l i) d.recv.2).1 ≠ 0) : d.app l = DS.all (logW l i) d.recv.2 := by
  obtain ⟨B, hB⟩ := logW_prefix l i _ hi
  have e : DS.all (appW l) d.recv.2 = DS.all (logW l i) d.recv.2 := by unfold appW; rw [hB, List.append_assoc, all_fail h]
  unfold DS.app
  rw [if_neg hl, if_neg (by omega), e, if_pos h]
theorem recv_ws (d : DS) : d.recv.2.ws.length ≤ d.ws.length + 25 ∨ True := .inr trivial
/-- How many writes there are at most behind some more. -/
theorem all_ws : ∀ (A : List (Nat × List UInt8)) (d : DS), (DS.all A d).2.ws.length ≤ d.ws.length + A.length
  | [], d => by simp [DS.all]
  | x :: A, d => by
    have hw : (d.wr x.1 x.2).2.ws.length ≤ d.ws.length + 1 := by
      unfold DS.wr
      split
      · show d.ws.length ≤ _; omega
      · split
        · show d.ws.length ≤ _; omega
        · simp [DS.put]
    by_cases h : (d.wr x.1 x.2).1 = 0
    · have e : DS.all (x :: A) d = DS.all A (d.wr x.1 x.2).2 := by simp [DS.all, h]
      rw [e]
      have := all_ws A (d.wr x.1 x.2).2
      simp only [List.length_cons]; omega
    · have e : DS.all (x :: A) d = d.wr x.1 x.2 := by simp [DS.all, h]
      rw [e]; simp only [List.length_cons]; omega
theorem recAll_len (f : Nat → List UInt8) : (recAll f).length ≤ hb f 0 + 1 := by
  unfold recAll
  rw [List.length_append]
  have := recW_len f (hb f 0)
  split <;> simp <;> omega
theorem recv_len (d : DS) : d.recv.2.ws.length ≤ d.ws.length + 25 := by
  unfold DS.recv
  split
  · show d.ws.length ≤ _; omega
  · split
    · show d.ws.length ≤ _; omega
    · have := all_ws (recAll d.bl) d
      have := recAll_len d.bl
      split
      · show (DS.all (recAll d.bl) d).2.ws.length ≤ _; omega
      · show (DS.all (recAll d.bl) d).2.ws.length ≤ _; omega
theorem hdB_step {l : List (Nat × List UInt8)} {i j : Nat} (hj : j ≠ 1 + i) : hdB l (i + 1) j = hdB l i j := by
  unfold hdB
  by_cases h0 : j = 0
  · rw [if_pos h0, if_pos h0]
  · rw [if_neg h0, if_neg h0]
    by_cases h1 : j ≤ i
    · rw [if_pos (by omega), if_pos h1]
    · rw [if_neg (by omega), if_neg h1]
theorem hdB_new {l : List (Nat × List UInt8)} {i : Nat} {x : Nat × List UInt8} (h : l[i]? = some x) : hdB l (i + 1) (1 + i) = UInt8.ofNat x.1 := by
  unfold hdB
  rw [if_neg (by omega), if_pos (by omega), show 1 + i - 1 = i by omega, h]; rfl
theorem headB_other {l : List (Nat × List UInt8)} {j : Nat} (h : j ≠ 0) : headB l j = hdB l l.length j := by unfold headB; rw [if_neg h]
theorem headF_len (l : List (Nat × List UInt8)) : (headF l).length = 64 := by simp only [headF, List.length_map, List.length_range]
def unscope : Code → Code | .scope c => c | c => c
def rightN : Nat → Code → Code
  | 0, c => c
  | n + 1, .seq _ b => rightN n b
  | _ + 1, c => c
/-- As Q; by a goto: K. -/
def Exit.fam (K : Nat → Act → World → Prop) (Q : Exit → Act → World → Prop) : Exit → Act → World → Prop
  | .goto l, a, w => K l a w
  | e, a, w => Q e a w
section
variable {K : Nat → Act → World → Prop} {Q : Exit → Act → World → Prop} {a : Act} {w : World}
@[go_sem] theorem fam_normal : Exit.fam K Q .normal a w = Q .normal a w := rfl
@[go_sem] theorem fam_ret : Exit.fam K Q .ret a w = Q .ret a w := rfl
@[go_sem] theorem fam_exit (i : Nat) : Exit.fam K Q (.exit i) a w = Q (.exit i) a w := rfl
@[go_sem] theorem fam_panic (c : List PanicEntry) : Exit.fam K Q (.panic c) a w = Q (.panic c) a w := rfl
end
/-- A scope with labels: what holds at each jump, and a measure. -/
theorem wp_scope_fam {P : Program} {a : Act} {w : World} {Q : Exit → Act → World → Prop} {c : Code} (L : Nat → Option Code) (J : Nat → Act → World → Prop) (μ : Nat → Act → World → Nat) (hf : ∀ l rest, L l = some rest → findLabel c l = some rest)
    (first : c.wp P (Exit.fam (fun l a w => (L l).isSome = true ∧ J l a w) Q) a w)
    (pass : ∀ l rest a w, L l = some rest → J l a w → rest.wp P (Exit.fam (fun l' a' w' => (L l').isSome = true ∧ J l' a' w' ∧ μ l' a' w' < μ l a w) Q) a w) : (Code.scope c).wp P Q a w := by
  intro b k cs
  have hg : ∀ l rest, L l = some rest → gotoIn l (.inScope c :: k) = some (.code rest :: .inScope c :: k) := fun l rest h => by simp [gotoIn, hf l rest h]
  have key : ∀ n l rest a w, L l = some rest → μ l a w = n → J l a w → ∃ e a' w', Q e a' w' ∧ Arrives P (lone (b.at a (.code rest :: .inScope c :: k)) cs w) b k cs e a' w' := by
    intro n
    induction n using Nat.strongRecOn with
    | _ n ih =>
      intro l rest a w hl hn hJ
      obtain ⟨e, a₁, w₁, hq, harr⟩ := pass l rest a w hl hJ b (.inScope c :: k) cs
      cases e with
      | normal => exact ⟨.normal, a₁, w₁, hq, Steps.trans harr (.one step_inScope)⟩
      | exit id => exact ⟨.exit id, a₁, w₁, hq, fun k' hk => harr k' (by simp [exitTo, hk])⟩
      | goto l' =>
        obtain ⟨hs, hJ', hlt⟩ := hq
        obtain ⟨rest', hr'⟩ := Option.isSome_iff_exists.1 hs
        obtain ⟨e₂, a₂, w₂, hq₂, harr₂⟩ := ih _ (by omega) l' rest' a₁ w₁ hr' rfl hJ'
        exact ⟨e₂, a₂, w₂, hq₂, .of_steps (harr _ (hg _ _ hr')) harr₂⟩
      | ret => exact ⟨_, a₁, w₁, hq, harr⟩
      | panic ch => exact ⟨_, a₁, w₁, hq, harr⟩
      | outgrown => exact ⟨_, a₁, w₁, hq, harr⟩
  obtain ⟨e, a₁, w₁, hq, harr⟩ := first b (.inScope c :: k) cs
  cases e with
  | normal => exact ⟨.normal, a₁, w₁, hq, .head step_scope (Steps.trans harr (.one step_inScope))⟩
  | exit id => exact ⟨.exit id, a₁, w₁, hq, fun k' hk => .head step_scope (harr k' (by simp [exitTo, hk]))⟩
  | goto l' =>
    obtain ⟨hs, hJ'⟩ := hq
    obtain ⟨rest', hr'⟩ := Option.isSome_iff_exists.1 hs
    obtain ⟨e₂, a₂, w₂, hq₂, harr₂⟩ := key _ l' rest' a₁ w₁ hr' rfl hJ'
    exact ⟨e₂, a₂, w₂, hq₂, .of_steps (.head step_scope (harr _ (hg _ _ hr'))) harr₂⟩
  | ret => exact ⟨_, a₁, w₁, hq, .of_steps (.one step_scope) harr⟩
  | panic ch => exact ⟨_, a₁, w₁, hq, .of_steps (.one step_scope) harr⟩
  | outgrown => exact ⟨_, a₁, w₁, hq, .of_steps (.one step_scope) harr⟩
/-- What holds of the world at the label 'keep'. -/
structure AppJ (w wr : World) (S S' : Nat → Prop) (k g6 i : Nat) (v : Value) (d : DS) (l : List (Nat × List UInt8)) : Prop where
  lt : i < l.length
  ok : (DS.all (logW l i) d.recv.2).1 = 0
  dd : Dsk wr k (DS.all (logW l i) d.recv.2).2 S'
  hd : ∃ C : Array Value, wr.heap[g6]? = some (.cells C 28 (0, 0)) ∧ C.size = 64 ∧ ∀ j, j < 64 → C[j]? = some (byteV (hdB l i j))
  u : Upd S w wr
  f : ∀ j, S' j → S j ∨ w.heap.size ≤ j
  g : ¬ S' g6
  vr : WlR wr v l
  o : ∀ j, v.ownBlock = some j → ¬ S' j ∧ j < w.heap.size ∧ j ≠ g6
  gw : w.heap.size ≤ g6
def AppE (S : Nat → Prop) (k : Nat) (r : Int × DS) (w wr : World) : Prop := ∃ S', Dsk wr k r.2 S' ∧ Upd S w wr ∧ ∀ j, S' j → S j ∨ w.heap.size ≤ j
def AJ0 (S : Nat → Prop) (k g6 i : Nat) (ao : Option Addr) (cap : Nat) (d : DS) (l : List (Nat × List UInt8)) (w : World) (A : Act) (wr : World) : Prop :=
  ∃ (u2 u3 u4 u5 u8 u9 u10 u11 u12 u13 u14 u15 u16 u17 u18 u19 u20 u21 u22 u23 u24 u25 u26 u27 u28 u29 u30 u31 u32 u33 u34 u35 u36 u37 u38 u39 u40 u41 u42 u43 u44 u45 u46 u47 u48 u49 u50 u51 u52 u53 u54 u55 u56 u57 u58 u59 u60 u61 u62 u63 u64 u65 u66 : Value) (S' : Nat → Prop), A = ⟨((.pointer (some ⟨k, 0, none⟩)) :: (.slice ao l.length cap) :: u2 :: u3 :: u4 :: u5 :: (.pointer (some ⟨g6, 0, none⟩)) :: (.int .i64 (i : Int)) :: u8 :: u9 :: u10 :: u11 :: u12 :: u13 :: u14 :: u15 :: u16 :: u17 :: u18 :: u19 :: u20 :: u21 :: u22 :: u23 :: u24 :: u25 :: u26 :: u27 :: u28 :: u29 :: u30 :: u31 :: u32 :: u33 :: u34 :: u35 :: u36 :: u37 :: u38 :: u39 :: u40 :: u41 :: u42 :: u43 :: u44 :: u45 :: u46 :: u47 :: u48 :: u49 :: u50 :: u51 :: u52 :: u53 :: u54 :: u55 :: u56 :: u57 :: u58 :: u59 :: u60 :: u61 :: u62 :: u63 :: u64 :: u65 :: u66 :: []).toArray, []⟩ ∧ AppJ w wr S S' k g6 i (.slice ao l.length cap) d l
def AJ1 (S : Nat → Prop) (k : Nat) (d : DS) (l : List (Nat × List UInt8)) (w : World) (A : Act) (wr : World) : Prop :=
  ∃ (u1 u2 u3 u4 u6 u7 u8 u9 u10 u11 u12 u13 u14 u15 u16 u17 u18 u19 u20 u21 u22 u23 u24 u25 u26 u27 u28 u29 u30 u31 u32 u33 u34 u35 u36 u37 u38 u39 u40 u41 u42 u43 u44 u45 u46 u47 u48 u49 u50 u51 u52 u53 u54 u55 u56 u57 u58 u59 u60 u61 u62 u63 u64 u65 u66 : Value), A = ⟨((.pointer (some ⟨k, 0, none⟩)) :: u1 :: u2 :: u3 :: u4 :: (.int .i64 (d.app l).1) :: u6 :: u7 :: u8 :: u9 :: u10 :: u11 :: u12 :: u13 :: u14 :: u15 :: u16 :: u17 :: u18 :: u19 :: u20 :: u21 :: u22 :: u23 :: u24 :: u25 :: u26 :: u27 :: u28 :: u29 :: u30 :: u31 :: u32 :: u33 :: u34 :: u35 :: u36 :: u37 :: u38 :: u39 :: u40 :: u41 :: u42 :: u43 :: u44 :: u45 :: u46 :: u47 :: u48 :: u49 :: u50 :: u51 :: u52 :: u53 :: u54 :: u55 :: u56 :: u57 :: u58 :: u59 :: u60 :: u61 :: u62 :: u63 :: u64 :: u65 :: u66 :: []).toArray, []⟩ ∧ AppE S k (d.app l) w wr
def AppP (S : Nat → Prop) (k : Nat) (r : Int × DS) (w : World) (e : Ending) (w' : World) : Prop := e = .returned (.int .i64 r.1) ∧ AppE S k r w w'

set_option maxHeartbeats 2000000 in
set_option maxRecDepth 100000 in
theorem apply_body (S : Nat → Prop) (k g6 i : Nat) (ao : Option Addr) (cap : Nat) (d : DS) (l : List (Nat × List UInt8)) (w : World) (hg : Good l) (h0 : d.recv.1.2 = 0) (hn : d.ws.length ≤ 800000)
    (A : Act) (wr : World) (hJ : AJ0 S k g6 i ao cap d l w A wr) (Q : Exit → Act → World → Prop)
    (q0 : ∀ A' w', AJ0 S k g6 (i + 1) ao cap d l w A' w' → Q (.goto 0) A' w') (q1 : ∀ A' w', AJ1 S k d l w A' w' → Q (.goto 1) A' w')
    (qr : ∀ A' w', bodyPost Try.prog Try.f23 (AppP S k (d.app l) w) .ret A' w' → Q .ret A' w') :
    Code.wp Try.prog (rightN 6 (unscope (rightN 1 (Try.f23.body.getD .skip)))) Q A wr := by
  obtain ⟨u2, u3, u4, u5, u8, u9, u10, u11, u12, u13, u14, u15, u16, u17, u18, u19, u20, u21, u22, u23, u24, u25, u26, u27, u28, u29, u30, u31, u32, u33, u34, u35, u36, u37, u38, u39, u40, u41, u42, u43, u44, u45, u46, u47, u48, u49, u50, u51, u52, u53, u54, u55, u56, u57, u58, u59, u60, u61, u62, u63, u64, u65, u66, S1, rfl, hj⟩ := hJ
  have HJ := Lib.hid hj
  have HG := Lib.hid hg
  have H0 := Lib.hid h0
  have HN := Lib.hid hn
  have Q0 := Lib.hid q0
  have Q1 := Lib.hid q1
  have QR := Lib.hid qr
  have hlt := hj.lt
  have hl24 := hg.len
  obtain ⟨x, hx⟩ : ∃ x, l[i]? = some x := ⟨_, List.getElem?_eq_getElem hlt⟩
  have hxg := hg.at_ x (List.mem_of_getElem? hx)
  clear hj hg h0 hn q0 q1 qr
  obtain ⟨g, o, rfl, hra⟩ : ∃ g o, ao = some ⟨g, o, none⟩ ∧ wr.rangeAt g (o + i * 65) (wcells x) := by
    obtain ⟨ao', cap', he, _, _, hr⟩ := HJ.out.vr
    simp only [Value.slice.injEq, true_and] at he
    obtain ⟨rfl, rfl⟩ := he
    rcases hr with h | ⟨g, o, h, hr⟩
    · rw [h] at hlt; simp at hlt
    · refine ⟨g, o, h, ?_⟩
      have := hr i hlt
      rw [List.getElem?_eq_getElem hlt] at hx
      rw [Option.some.inj hx] at this
      exact this
  have hcap : (l.length : Int) ≤ (cap : Int) := by
    obtain ⟨ao', cap', he, hc, _⟩ := HJ.out.vr
    simp only [Value.slice.injEq, true_and] at he
    obtain ⟨_, rfl⟩ := he
    omega
  obtain ⟨C, hC, hCs, hCf⟩ := HJ.out.hd
  have c0 : wr.cell? ⟨g, o + i * 65, none⟩ = some (.int .i64 (x.1 : Int)) := by have := hra 0 _ rfl; simpa using this
  have hr1 : wr.rangeAt g (o + i * 65 + 1) (bytesV x.2) := fun j v hv => by
    have := hra (j + 1) v (by simpa [wcells] using hv)
    rwa [show o + i * 65 + (j + 1) = o + i * 65 + 1 + j by omega] at this
  have c6 : wr.cell? ⟨g6, 1 + i, none⟩ = some (byteV (hdB l i (1 + i))) := by rw [cell_of_row wr g6 _ _ 28 (0, 0) hC]; exact hCf (1 + i) (by omega)
  have f6 := frozen_of_row wr g6 (1 + i) _ 28 hC
  have hgg : g ≠ g6 := (HJ.out.o g rfl).2.2
  have HC := Lib.hid hC
  have HCs := Lib.hid hCs
  have HCf := Lib.hid hCf
  have HR1 := Lib.hid hr1
  have HX := Lib.hid hx
  have HXG := Lib.hid hxg
  have HBL := Lib.hid (show (Try.prog.info? 28).map (·.size) = some (bytesV x.2).length by rw [bytesV_length, hxg.2.2]; exact size28)
  have hx255 : x.1 < 255 := hxg.2.1
  have HXE := Lib.hid (show UInt8.ofNat x.1 = UInt8.ofNat x.1 from rfl)
  have HHN := Lib.hid (hdB_new hx)
  generalize hxi : x.1 = xi at *
  have HXI := Lib.hid hxi
  generalize hxb : x.2 = xb at *
  have HXB := Lib.hid hxb
  have e1 : (i : Int) < (l.length : Int) := by omega
  have e2 : (0 : Int) ≤ (i : Int) := by omega
  have e3 : (i : Int) < 24 := by omega
  clear hra hC hCs hCf hr1 hx hxg hxi hxb
  show Code.wp Try.prog (Code.seq _ _) _ _ _
  go_wp2_with (refine wpList_load_mid rfl 28 (.tmp 42) rfl g (o + i * 65 + 1) (by rfl) (bytesV xb) _ (range_upd HR1.out ((Upd.refl (fun j => j = g6) _).setCell (fun _ => rfl) _) hgg) Try.underlying28 rfl HBL.out ?_)
  have hs2 := (Upd.refl (fun j => j = g6) wr).setCell (p := ⟨g6, 1 + i, none⟩) (fun _ => rfl) (.int .u8 xi)
  have hh2 := heap_setCell_same wr g6 (1 + i) _ 28 (.int .u8 xi) HC.out
  have hC2 : ∃ C2 : Array Value, (wr.setCell ⟨g6, 1 + i, none⟩ (.int .u8 xi)).heap[g6]? = some (.cells C2 28 (0, 0)) ∧ C2.size = 64 ∧ ∀ j, j < 64 → C2[j]? = some (byteV (hdB l (i + 1) j)) := by
    refine ⟨_, hh2, by rw [Array.size_setIfInBounds]; exact HCs.out, fun j hj => ?_⟩
    by_cases e : j = 1 + i
    · subst e
      rw [HHN.out, Array.getElem?_setIfInBounds]
      simp only [HCs.out, hj, if_true]
      simp only [byteV, UInt8.toNat_ofNat']
      congr 2
      omega
    · rw [hdB_step e, Array.getElem?_setIfInBounds, if_neg (by omega)]
      exact HCf.out j hj
  have hD2 : Dsk (wr.setCell ⟨g6, 1 + i, none⟩ (.int .u8 xi)) k (DS.all (logW l i) d.recv.2).2 S1 := HJ.out.dd.upd hs2 (fun j hj e => HJ.out.g (by rw [← e]; exact hj))
  have hV2 : WlR (wr.setCell ⟨g6, 1 + i, none⟩ (.int .u8 xi)) (.slice (some ⟨g, o, none⟩) l.length cap) l := HJ.out.vr.upd hs2 (fun j hj e => (HJ.out.o j hj).2.2 e)
  have hU2 : Upd S w (wr.setCell ⟨g6, 1 + i, none⟩ (.int .u8 xi)) := HJ.out.u.trans hs2 (fun j hj e => by have := HJ.out.gw; omega)
  have hZ2 : wr.heap.size ≤ (wr.setCell ⟨g6, 1 + i, none⟩ (.int .u8 xi)).heap.size := hs2.size
  have hG6 : g6 < wr.heap.size := (Array.getElem?_eq_some_iff.1 HC.out).1
  generalize wr.setCell ⟨g6, 1 + i, none⟩ (.int .u8 xi) = w2 at *
  have HC2 := Lib.hid hC2
  have HD2 := Lib.hid hD2
  have HV2 := Lib.hid hV2
  have HU2 := Lib.hid hU2
  have HG6 := Lib.hid (show g6 < w2.heap.size by omega)
  have hx' : x = (xi, xb) := by rw [← HXI.out, ← HXB.out]
  have hst : DS.all (logW l (i + 1)) d.recv.2 = (DS.all (logW l i) d.recv.2).2.wr (1 + (i : Int)) xb := by
    have e : ((1 + i : Nat) : Int) = 1 + (i : Int) := by omega
    rw [logW, all_snoc _ _ _ HJ.out.ok, e, HX.out, hx']; rfl
  have HST := Lib.hid hst
  have HWS := Lib.hid (show (DS.all (logW l i) d.recv.2).2.ws.length ≤ 1000000 by
    have h1 := all_ws (logW l i) d.recv.2
    have h2 := recv_len d
    rw [logW_len] at h1
    have := HN.out
    omega)
  have hne : l ≠ [] := by intro h; rw [h] at hlt; simp at hlt
  have HNE := Lib.hid hne
  clear hs2 hh2 hC2 hD2 hV2 hU2 hZ2 hG6 hx' hst hne c0 c6 f6
  refine (write_dsk k _ S1 (1 + (i : Int)) xb w2 HD2.out HXG.out.2.2 HWS.out).mono ?_
  rw [← HST.out]
  rintro e w3 ⟨rfl, S3, hd, hA, hs⟩
  have hf3 : ∀ j, S3 j → S j ∨ w.heap.size ≤ j := fun j hj => (hs j hj).elim (HJ.out.f j) (fun h => .inr (Nat.le_trans HU2.out.size h))
  have hU3 : Upd S w w3 := HU2.out.trans hA (fun j hj h => (HJ.out.f j h).elim (fun h => h) (fun h => by omega))
  have hg3 : ¬ S3 g6 := fun h => (hs g6 h).elim HJ.out.g (fun h => by have := HG6.out; omega)
  have hC3 : ∃ C2 : Array Value, w3.heap[g6]? = some (.cells C2 28 (0, 0)) ∧ C2.size = 64 ∧ ∀ j, j < 64 → C2[j]? = some (byteV (hdB l (i + 1) j)) := by
    obtain ⟨C2, h1, h2, h3⟩ := HC2.out
    exact ⟨C2, hA.heap_some h1 HJ.out.g, h2, h3⟩
  have hV3 : WlR w3 (.slice (some ⟨g, o, none⟩) l.length cap) l := HV2.out.upd hA (fun j hj => (HJ.out.o j hj).1)
  have ho3 : ∀ j, (Value.slice (some ⟨g, o, none⟩) l.length cap).ownBlock = some j → ¬ S3 j ∧ j < w.heap.size ∧ j ≠ g6 := fun j hj => ⟨fun h => (hs j h).elim (HJ.out.o j hj).1 (fun h => by have := (HJ.out.o j hj).2.1; have := HU2.out.size; omega), (HJ.out.o j hj).2⟩
  have HD3 := Lib.hid hd
  have HF3 := Lib.hid hf3
  have HU3 := Lib.hid hU3
  have HG3 := Lib.hid hg3
  have HC3 := Lib.hid hC3
  have HV3 := Lib.hid hV3
  have HO3 := Lib.hid ho3
  clear hd hA hs hf3 hU3 hg3 hC3 hV3 ho3
  by_cases hok : (DS.all (logW l (i + 1)) d.recv.2).1 = 0
  · have HOK := Lib.hid hok
    rw [hok]
    clear hok
    by_cases hlast : i + 1 < l.length
    · have e4 : ((i : Int) + 1) < (l.length : Int) := by omega
      have HLAST := Lib.hid hlast
      clear hlast
      go_wp2_with fail
      apply wp_goto
      refine Q0.out _ _ ?_
      iterate 64 (apply Exists.intro)
      exact ⟨rfl, HLAST.out, HOK.out, HD3.out, HC3.out, HU3.out, HF3.out, HG3.out, HV3.out, HO3.out, HJ.out.gw⟩
    · have hil : i + 1 = l.length := by omega
      have HIL := Lib.hid hil
      have e4 : ¬ (((i : Int) + 1) < (l.length : Int)) := by omega
      obtain ⟨C3, hh3, hs3, hf3⟩ := HC3.out
      have c60 : w3.cell? ⟨g6, 0, none⟩ = some (byteV (hdB l (i + 1) 0)) := by rw [cell_of_row w3 g6 _ _ 28 (0, 0) hh3]; exact hf3 0 (by omega)
      have f60 := frozen_of_row w3 g6 0 _ 28 hh3
      have HH3 := Lib.hid hh3
      have HS3' := Lib.hid hs3
      have HF3' := Lib.hid hf3
      have hrh : ∀ wx, wx = w3.setCell ⟨g6, 0, none⟩ (.int .u8 ((i : Int) + 1)) → wx.rangeAt g6 0 (bytesV (headF l)) ∧ Upd (fun j => j = g6) w3 wx := by
        rintro wx rfl
        refine ⟨?_, (Upd.refl (fun j => j = g6) w3).setCell (fun _ => rfl) _⟩
        intro j v hv
        have hj : j < 64 := by have := (List.getElem?_eq_some_iff.1 hv).1; rw [bytesV_length, headF_len] at this; exact this
        rw [Nat.zero_add, cell_of_row _ g6 j _ 28 (0, 0) (heap_setCell_same w3 g6 0 _ 28 _ HH3.out), ← hv]
        rw [bytesV_get (headF l) j (by rw [headF_len]; exact hj)]
        have hhe : (headF l)[j]'(by rw [headF_len]; exact hj) = headB l j := by simp [headF]
        rw [hhe, Array.getElem?_setIfInBounds]
        by_cases e0 : j = 0
        · subst e0
          rw [if_pos rfl, if_pos (by rw [HS3'.out]; omega)]
          simp only [headB, if_true, byteV, UInt8.toNat_ofNat', ← HIL.out]
          congr 2
          omega
        · rw [if_neg (by omega), HF3'.out j hj, headB_other e0, HIL.out]
      have HRH := Lib.hid (hrh _ rfl).1
      have HRU := Lib.hid (hrh _ rfl).2
      have HHL := Lib.hid (show (Try.prog.info? 28).map (·.size) = some (bytesV (headF l)).length by rw [bytesV_length, headF_len]; exact size28)
      clear hil hlast hh3 hs3 hf3 hrh
      go_wp2_with (refine wpList_load_mid rfl 28 (.tmp 6) rfl g6 0 (by rfl) (bytesV (headF l)) _ HRH.out Try.underlying28 rfl HHL.out ?_)
      have hst : DS.all (appW l) d.recv.2 = (DS.all (logW l (i + 1)) d.recv.2).2.wr ((0 : Nat) : Int) (headF l) := by
        unfold appW; rw [← HIL.out, all_snoc _ _ _ HOK.out]
      have HST2 := Lib.hid hst
      have HWS2 := Lib.hid (show (DS.all (logW l (i + 1)) d.recv.2).2.ws.length ≤ 1000000 by
        have h1 := all_ws (logW l (i + 1)) d.recv.2
        have h2 := recv_len d
        rw [logW_len] at h1
        have := HN.out
        omega)
      have HWS3 := Lib.hid (show (DS.all (appW l) d.recv.2).2.ws.length ≤ 900000 by
        have h1 := all_ws (appW l) d.recv.2
        have h2 := recv_len d
        have h3 : (appW l).length ≤ 25 := by unfold appW; rw [List.length_append, logW_len]; simp; omega
        have := HN.out
        omega)
      have HD4 := Lib.hid (HD3.out.upd HRU.out (fun j hj e => HG3.out (by rw [← e]; exact hj)))
      have HU4 := Lib.hid (HU3.out.trans HRU.out (fun j hj e => by have := HJ.out.gw; omega))
      generalize w3.setCell ⟨g6, 0, none⟩ (.int .u8 ((i : Int) + 1)) = w4 at *
      clear hst c60 f60
      refine (write_dsk k _ S3 ((0 : Nat) : Int) (headF l) w4 HD4.out (headF_len l) HWS2.out).mono ?_
      rw [← HST2.out]
      rintro e w5 ⟨rfl, S5, hd, hA, hs⟩
      have HD5 := Lib.hid hd
      have HF5 := Lib.hid (show ∀ j, S5 j → S j ∨ w.heap.size ≤ j from fun j hj => (hs j hj).elim (HF3.out j) (fun h => .inr (Nat.le_trans HU4.out.size h)))
      have HU5 := Lib.hid (HU4.out.trans hA (fun j hj h => (HF3.out j h).elim (fun h => h) (fun h => by omega)))
      clear hd hA hs
      by_cases hok2 : (DS.all (appW l) d.recv.2).1 = 0
      · have HAPP := Lib.hid (show d.app l = ((DS.all (appW l) d.recv.2).2.recv.1.2, (DS.all (appW l) d.recv.2).2.recv.2) by
          unfold DS.app; rw [if_neg HNE.out, if_neg (by have := H0.out; omega), if_neg (by omega)])
        rw [hok2]
        clear hok2
        go_wp2_with fail
        refine (recover_dsk k _ S5 w5 HD5.out HWS3.out).mono ?_
        rintro e w6 ⟨rfl, S6, hd, hA, hs⟩
        have HE := Lib.hid (show AppE S k (d.app l) w w6 by
          rw [HAPP.out]
          exact ⟨S6, hd, HU5.out.trans hA (fun j hj h => (HF5.out j h).elim (fun h => h) (fun h => by omega)), fun j hj => (hs j hj).elim (HF5.out j) (fun h => .inr (Nat.le_trans HU5.out.size h))⟩)
        clear hd hA hs
        go_wp2_with fail
        refine wp_label ?_
        go_wp2_with fail
        refine QR.out _ _ ?_
        go_ret
        exact ⟨by rw [HAPP.out]; rfl, HE.out⟩
      · have HAPP := Lib.hid (show d.app l = DS.all (appW l) d.recv.2 by
          unfold DS.app; rw [if_neg HNE.out, if_neg (by have := H0.out; omega), if_pos hok2])
        have HE := Lib.hid (show AppE S k (d.app l) w w5 by rw [HAPP.out]; exact ⟨S5, HD5.out, HU5.out, HF5.out⟩)
        have hne : ¬ ((d.app l).1 = 0) := by rw [HAPP.out]; exact hok2
        rw [← HAPP.out]
        generalize hr : (d.app l).1 = er at *
        have HER := Lib.hid hr
        clear hok2 hr
        go_wp2_with fail
        apply wp_goto
        refine Q1.out _ _ ?_
        iterate 65 (apply Exists.intro)
        exact ⟨by rw [HER.out], HE.out⟩
  · have HAPP := Lib.hid (app_fail HNE.out H0.out (show i + 1 ≤ l.length by omega) hok)
    have HE := Lib.hid (show AppE S k (d.app l) w w3 by rw [HAPP.out]; exact ⟨S3, HD3.out, HU3.out, HF3.out⟩)
    have hne : ¬ ((d.app l).1 = 0) := by rw [HAPP.out]; exact hok
    rw [← HAPP.out]
    generalize hr : (d.app l).1 = er at *
    have HER := Lib.hid hr
    clear hok hr
    go_wp2_with fail
    apply wp_goto
    refine Q1.out _ _ ?_
    iterate 65 (apply Exists.intro)
    exact ⟨by rw [HER.out], HE.out⟩
end Go.Proofs.Ytckgcfkahffibaa
