import Derived.Test.YtckgcfkahffibaaWr2
import Derived.Laws.CopyOwn
import Derived.Deep.QuietTactic
namespace Go.Proofs.Ytckgcfkahffibaa
open Go.RowKit
set_option linter.unusedVariables false
set_option linter.unusedSimpArgs false
theorem step_copy_mid {P : Program} {ops : Array Oper} {o : Oper} {a : Act} {w : World} {K : Act → World → Prop} {Q : Exit → Act → World → Prop} {E : Prop} (hgd : o.guard = none) (d s : Operand) (t t2 : TypeId)
    (ho : o.op = .call { callee := .builtin .copy, args := #[d, s], argTypes := #[t, t2] }) (e : TypeId) (i : TypeInfo) (ht : P.underlying t = some (.slice e)) (hi : P.info? e = some i) (size : Nat) (hs : i.size = size)
    (g dLen dCap : Nat) (ad : Addr) (n2 c2 n : Nat) (hd : a.eval d = .slice (some ⟨g, 0, none⟩) dLen dCap) (hsv : a.eval s = .slice (some ad) n2 c2)
    (cs : List Value) (hn : Nat.min n2 dLen = n) (hlen : cs.length = n * size) (hsrc : ∀ j u, cs[j]? = some u → w.cell? (ad.add j) = some u) (hth : w.there g 0 cs.length) (h1 : ∀ u ∈ cs, u.oneCell' = true)
    (hK : K (a.put o.dst (goInt n)) (w.setCells g 0 cs)) :
    if Region.wanted o (yielded ops a.tmps) = true then Oper.wp P o a w K Q else E := by
  have hw : Region.wanted o (yielded ops a.tmps) = true := by simp [Region.wanted, hgd]
  rw [if_pos hw]
  subst hs
  have hf := run_firstCells_some (P := P) w i.size n ad n2 c2 cs hlen hsrc
  have hst := run_store_range (P := P) hth h1
  have hrun : (Builtin.copy_ #[t, t2] o.type #[.slice (some ⟨g, 0, none⟩) dLen dCap, .slice (some ad) n2 c2]).run P w = .ok (goInt n) (w.setCells g 0 cs) := by
    simp [Builtin.copy_, run_underlying ht, sizeOf, typeInfo, hi, Builtin.lenOf, hn, hf, hst]
  unfold Oper.wp
  simp [execOp, ho, resolve, invoke, builtin, hd, hsv, hrun, Result.andThen]
  exact hK
theorem zero33 : ∃ Zc : Array Value, Zc.size = 65 ∧ ∀ w, (zeroValue 33).run Try.prog w = .ok (.agg Zc) w := by
  obtain ⟨i0, hi, hz0, hz1, hz2⟩ := info_parts info33
  have hl : (Value.int .i64 0 :: List.replicate 64 (Value.int .u8 0)).toArray.size = 65 := by rw [List.size_toArray, List.length_cons, List.length_replicate]
  generalize (Value.int .i64 0 :: List.replicate 64 (Value.int .u8 0)).toArray = Z at *
  exact ⟨Z, hl, fun w => by simp [zeroValue, typeInfo, hi, hz0]⟩
/-- A slice's head. -/
theorem run_head {w : World} {ao : Option Addr} {n cap m : Nat} (hm : m ≤ cap) : (Instr.sliceAt 30 (.slice ao n cap) none (some (.int .i64 (m : Int))) none).run Try.prog w = .ok (.slice ao m cap) w := by
  have e : Try.prog.elem 30 = 33 := by unfold Program.elem; rw [Try.underlying30]
  have hU : Try.prog.underlying 30 = some (.slice (Try.prog.elem 30)) := by rw [e]; exact Try.underlying30
  rw [run_sliceAt_slice (P := Try.prog) (w := w) (h := hU), run_slice_h (P := Try.prog) (ht := hU) (h0 := by omega) (h2 := by omega)]
  obtain ⟨i0, hi, hz0, hz1, hz2⟩ := info_parts info33
  simp [sizeOf, typeInfo, e, hi, hz1, sliced]
  cases ao with
  | none => simp
  | some a =>
    have : a.add 0 = a := by cases a with | mk b o f => cases f <;> simp [Addr.add]
    simp [this]
/-- Writes, one behind the other. -/
def laid (f : Nat → List UInt8) (l : List (Nat × List UInt8)) : Nat → List UInt8 := l.foldl (fun f x j => if j = x.1 then x.2 else f j) f
def DS.of (f : Nat → List UInt8) : DS := ⟨f, f, [], -1, false⟩
def DS.cut (d : DS) (n : Nat) : DS := .of (laid d.ml (d.ws.take n))

theorem laid_step {f : Nat → List UInt8} {l : List (Nat × List UInt8)} {q : Nat} {x : Nat × List UInt8} (h : l[q]? = some x) : laid f (l.take (q + 1)) = fun j => if j = x.1 then x.2 else laid f (l.take q) j := by
  rw [List.take_add_one, h]
  simp [laid, List.foldl_append]
set_option maxHeartbeats 1000000 in
set_option maxRecDepth 100000 in
theorem cut_dsk (k : Nat) (d : DS) (S : Nat → Prop) (n : Nat) (w : World) (h : Dsk w k d S) (hn : d.ws.length ≤ 1000000) (hn0 : n ≤ 1000000) :
    Calls Try.prog 18 #[.pointer (some ⟨k, 0, none⟩), .int .i64 n] w fun e w' => ∃ k' S', e = .returned (.pointer (some ⟨k', 0, none⟩)) ∧ Dsk w' k' (d.cut n) S' ∧ (∀ j, S' j → w.heap.size ≤ j) ∧ Upd (fun _ => False) w w' := by
  obtain ⟨gb, gm, cb, cm, Wv, h, rfl⟩ := h
  obtain ⟨ao, cw, rfl, hsr, hnn⟩ := own_src h.ws
  have hcw : d.ws.length ≤ cw := by
    rcases h.ws.2 with ⟨e, _⟩ | ⟨_, _, _, e, _, _, hc, _⟩
    · simp only [Value.slice.injEq] at e; omega
    · simp only [Value.slice.injEq] at e; omega
  have HSR := Lib.hid hsr
  have HCW := Lib.hid hcw
  clear hsr hnn hcw
  obtain ⟨m, hm, hmn, hml⟩ : ∃ m, m = min n d.ws.length ∧ m ≤ n ∧ m ≤ d.ws.length := ⟨_, rfl, Nat.min_le_left _ _, Nat.min_le_right _ _⟩
  have HM := Lib.hid hm
  have HML := Lib.hid hml
  clear hm hmn hml
  have H := Lib.hid h
  have HN := Lib.hid hn
  have HN0 := Lib.hid hn0
  clear h hn hn0
  go_enter Try.func18, Try.ntmps18
  go_wp2_with fail
  refine (new_dsk w).mono ?_
  rintro e w1 ⟨k', S', rfl, ⟨gb', gm', cb', cm', Wv', h1, rfl⟩, hs, hu⟩
  have hD1 := H.out.upd hu (fun _ _ h => h)
  have c0 : w1.cell? ⟨k', 0, none⟩ = some (.slice (some ⟨gb', 0, none⟩) 255 cb') := by rw [cell_of_row w1 k' 0 _ 61 (0, 0) h1.cell]; rfl
  have c1 : w1.cell? ⟨k, 1, none⟩ = some (.slice (some ⟨gm, 0, none⟩) 255 cm) := by rw [cell_of_row w1 k 1 _ 61 (0, 0) hD1.cell]; rfl
  have c2 : w1.cell? ⟨k, 2, none⟩ = some (.slice ao d.ws.length cw) := by rw [cell_of_row w1 k 2 _ 61 (0, 0) hD1.cell]; rfl
  have HS := Lib.hid hs
  have HU := Lib.hid hu
  have HD1 := Lib.hid hD1
  have HN1 := Lib.hid h1
  have hgk : gb' ≠ k := by have := hs gb' (.inr (.inl rfl)); have := (Array.getElem?_eq_some_iff.1 H.out.cell).1; omega
  have hgk' : gb' ≠ k' := h1.ap.1
  obtain ⟨cs, hcs⟩ : ∃ cs, cs = (rowsL 255 (fun i => bytesV (d.ml i))).flatten := ⟨_, rfl⟩
  have hcl : cs.length = 255 * 64 := by rw [hcs, flat_len _ (rowsL_sz hD1.ml.len), rowsL_len]
  have hc1 : ∀ u ∈ cs, u.oneCell' = true := fun u hu => by
    rw [hcs] at hu
    obtain ⟨l, hl, hu⟩ := List.mem_flatten.1 hu
    obtain ⟨i, _, rfl⟩ := List.mem_map.1 hl
    exact bytesV_one _ u hu
  have hca : ∀ j u, cs[j]? = some u → w1.drew.cell? ((⟨gm, 0, none⟩ : Addr).add j) = some u := fun j u hj => by
    rw [Addr.add_mid, Nat.zero_add]
    exact hD1.ml.flat_at j u (by rw [← hcs]; exact hj)
  have hth : w1.drew.there gb' 0 cs.length := by
    obtain ⟨C, hC, hsz⟩ := h1.bl.row
    exact there_row (w := w1.drew) hC (by rw [hcl]; exact hsz)
  have HCA := Lib.hid hca
  have HTH := Lib.hid hth
  have HC1 := Lib.hid hc1
  have HCL := Lib.hid hcl
  have HCS := Lib.hid hcs
  obtain ⟨i0, hi, y0, y1, y2⟩ := info_parts info28
  clear hs hu hD1 h1 hca hth hc1 hcl hcs
  go_wp2_with fail
  have HKeep : Hid (∀ wx : World, (wx.cell? ⟨k', 0, none⟩ = some (.slice (some ⟨gb', 0, none⟩) 255 cb') ∧ wx.cell? ⟨k, 1, none⟩ = some (.slice (some ⟨gm, 0, none⟩) 255 cm)) → ((wx.setCells gb' 0 cs).cell? ⟨k', 0, none⟩ = some (.slice (some ⟨gb', 0, none⟩) 255 cb') ∧ (wx.setCells gb' 0 cs).cell? ⟨k, 1, none⟩ = some (.slice (some ⟨gm, 0, none⟩) 255 cm))) := by
    intro wx ⟨h1, h2⟩
    rw [World.cell?_setCells_out gb' cs _ wx ⟨k', 0, none⟩ (fun h => absurd h.symm hgk'), World.cell?_setCells_out gb' cs _ wx ⟨k, 1, none⟩ (fun h => absurd h.symm hgk)]
    exact ⟨h1, h2⟩
  go_region_held3 (fun wx => wx.cell? ⟨k', 0, none⟩ = some (.slice (some ⟨gb', 0, none⟩) 255 cb') ∧ wx.cell? ⟨k, 1, none⟩ = some (.slice (some ⟨gm, 0, none⟩) 255 cm)) (first | exact HKeep.out _ (by assumption) | go_keep)
    ((refine step_copy_mid (by rfl) _ _ 59 59 (by rfl) 28 i0 Try.underlying59 hi 64 y1 gb' 255 cb' ⟨gm, 0, none⟩ 255 cm 255 (by rfl) (by rfl) cs (by rfl) HCL.out HCA.out HTH.out HC1.out ?_))
  have hu2 : Upd (fun _ => False) w (w1.drew.setCells gb' 0 cs) := upd_setCells HU.out.drew _ _ _ (fun h => by have := HS.out gb' (.inr (.inl rfl)); omega)
  have hd2 : Dk (w1.drew.setCells gb' 0 cs) k' gb' gm' cb' cm' Wv' { DS.new with bl := d.ml } := by
    have h0 := HN1.out.upd ((Upd.refl (fun _ => False) w1).drew) (fun _ _ h => h)
    have hs := upd_setCells (Upd.refl (fun j => j = gb') w1.drew) gb' 0 cs (fun _ => rfl)
    rw [HCS.out] at hs ⊢
    exact ⟨hs.heap_some h0.cell (fun e => h0.ap.1 e.symm), h0.bl.over _ HD1.out.ml.len, h0.ml.upd hs (fun e => h0.ap.2.2.1 e.symm), ownsRow_upd h0.ws hs (fun j hj e => h0.ap.2.2.2.2.1 (by rw [hj, e])), h0.at_, h0.ap, h0.cap, h0.left⟩
  have hd1 : Dk (w1.drew.setCells gb' 0 cs) k gb gm cb cm (.slice ao d.ws.length cw) d := H.out.upd hu2 (fun _ _ h => h)
  generalize w1.drew.setCells gb' 0 cs = w2 at *
  rename_i hHeld
  have HU2 := Lib.hid hu2
  have HN2 := Lib.hid hd2
  have HD2 := Lib.hid hd1
  have a2 : w2.cell? ⟨k, 2, none⟩ = some (.slice ao d.ws.length cw) := by rw [cell_of_row w2 k 2 _ 61 (0, 0) hd1.cell]; rfl
  have hsl : ∀ wx, (Instr.sliceAt 30 (.slice ao d.ws.length cw) none (some (.int .i64 (m : Int))) none).run Try.prog wx = .ok (.slice ao m cw) wx := fun wx => run_head (by have := HML.out; have := HCW.out; omega)
  clear hu2 hd2 hd1 hHeld HKeep HCA HTH HC1 HCL HCS HU HD1 HN1 c0 c1 c2 hgk
  go_wp2_with fail
  go_cut [30, 31, 32] from 18 to 32 (fun a b c wx => a = .slice ao m cw ∧ b = .int .i64 (m : Int) ∧ c = .int .i64 0 ∧ ∃ nq, wx = w2.drewN nq)
  case first =>
    by_cases hle : n ≤ d.ws.length
    · have hmn : m = n := by have := HM.out; omega
      subst hmn
      have b1 : (m : Int) ≤ (d.ws.length : Int) := by omega
      have b2 : (m : Int) ≤ (cw : Int) := by have := HCW.out; omega
      have b3 : ¬ ((m : Int) < 0) := by omega
      have b6 : ¬ ((d.ws.length : Int) < (m : Int)) := by omega
      have b4 : ¬ d.ws.length < m := by omega
      have b5 : m ≤ cw := by omega
      go_quiet (fail)
      go_wp2_with fail
      go_meet
      exact ⟨rfl, rfl, rfl, _, rfl⟩
    · obtain rfl : m = d.ws.length := by have := HM.out; omega
      have b1 : (d.ws.length : Int) < (n : Int) := by omega
      have b2 : (d.ws.length : Int) ≤ (cw : Int) := by have := HCW.out; omega
      have b3 : ¬ ((n : Int) < 0) := by omega
      have b4 : d.ws.length < n := by omega
      have b5 : d.ws.length ≤ cw := HCW.out
      clear hle
      go_quiet (fail)
      go_wp2_with fail
      go_meet
      exact ⟨rfl, rfl, rfl, _, rfl⟩
  case rest =>
  obtain ⟨rfl, rfl, rfl, nq, rfl⟩ := hcut
  have HU3 := Lib.hid (HU2.out.drewN nq)
  have HN3 := Lib.hid (HN2.out.upd ((Upd.refl (fun _ => False) w2).drewN nq) (fun _ _ h => h))
  clear HU2 HN2 HD2 a2 hsl
  generalize w2.drewN nq = w3 at *
  go_wp2_with fail
  go_loopw [32] (fun i wr => ∃ q : Nat, i = .int .i64 q ∧ q ≤ m ∧ Dk wr k' gb' gm' cb' cm' Wv' { DS.new with bl := laid d.ml (d.ws.take q) } ∧ Upd (fun _ => False) w wr) (fun i _ => m - (intOf i).toNat)
  case atStart => exact ⟨0, rfl, Nat.zero_le _, HN3.out, HU3.out⟩
  case round =>
    obtain ⟨q, rfl, hq, hn, hu⟩ := hrel
    have HNr := Lib.hid hn
    have HUr := Lib.hid hu
    clear hn hu
    by_cases hlt : q < m
    · have f0 : decide (q < m) = true := by simp [hlt]
      have hql : q < d.ws.length := by have := HML.out; omega
      obtain ⟨g, hao⟩ : ∃ g, ao = some ⟨g, 0, none⟩ := by
        rcases H.out.ws.2 with ⟨_, h⟩ | ⟨g, _, _, h, _⟩
        · omega
        · simp only [Value.slice.injEq] at h
          exact ⟨g, h.1⟩
      subst hao
      have hrg : wr.rangeAt g (q * 65) (wcells d.ws[q]) := range_upd (ws_at H.out.ws H.out.at_ q hql) HUr.out (fun h => h)
      have hxat := H.out.at_ _ (List.getElem_mem hql)
      have hwl := wcells_len hxat.2
      obtain ⟨x, hx⟩ : ∃ x, x = d.ws[q] := ⟨_, rfl⟩
      rw [← hx] at hrg hxat hwl
      have HR := Lib.hid hrg
      have HX := Lib.hid (show d.ws[q]? = some x by rw [hx]; exact List.getElem?_eq_getElem hql)
      have HAT := Lib.hid hxat
      have HWL := Lib.hid hwl
      have hs33 : (Try.prog.info? 33).map (·.size) = some 65 := by obtain ⟨i0, h0, _, h1, _⟩ := info_parts info33; rw [h0]; simp [h1]
      have HS33 := Lib.hid hs33
      have b1 : (q : Int) < (m : Int) := by omega
      have b2 : (0 : Int) ≤ (q : Int) := by omega
      obtain ⟨Zc, hZc, hz33⟩ := zero33
      have HZc := Lib.hid hZc
      clear hrg hx hxat hql hs33 hlt hZc
      go_wp2_with (refine wpList_load_mid rfl 33 (.tmp 34) rfl g (q * 65) (by rfl) (wcells x) _ HR.out Try.underlying33 rfl (by rw [HWL.out]; exact HS33.out) ?c1)
      generalize hZ : wr.alloc (.cells _ 33) = w4
      have hg4 : ∃ Z : Array Value, w4.heap[wr.heap.size]? = some (.cells Z 33 (0, 0)) ∧ Z.size = 65 := by rw [← hZ]; exact ⟨_, heap_alloc_new wr _, HZc.out⟩
      have hu4 : Upd (fun _ => False) wr w4 := by rw [← hZ]; exact (Upd.refl _ wr).alloc _
      have HU4 := Lib.hid hu4
      have HG4 := Lib.hid hg4
      have HLG := Lib.hid (show (∀ j, DkS k' gb' gm' Wv' j → j < wr.heap.size) ∧ gb' < wr.heap.size ∧ w.heap.size ≤ wr.heap.size from ⟨Dsk.lt ⟨gb', gm', cb', cm', Wv', HNr.out, rfl⟩, HNr.out.bl.lt, HUr.out.size⟩)
      generalize wr.heap.size = g7 at *
      clear hZ hu4 hg4
      have hst : (storeCells ⟨g7, 0, none⟩ (wcells x)).run Try.prog w4 = .ok () (w4.setCells g7 0 (wcells x)) := run_store_range (by obtain ⟨Z, h1, h2⟩ := HG4.out; rw [HWL.out]; exact there_row h1 (by omega)) (wcells_one x)
      have hu5 := upd_setCells (Upd.refl (fun j => j = g7) w4) g7 0 (wcells x) (fun _ => rfl)
      have hr5 : (w4.setCells g7 0 (wcells x)).rangeAt g7 0 (wcells x) := World.rangeAt_setCells_same _ _ _ _ (by obtain ⟨Z, h1, h2⟩ := HG4.out; rw [HWL.out]; exact there_row h1 (by omega))
      have hn5 := (HNr.out.upd HU4.out (fun _ _ h => h))
      have hlg := HLG.out
      have hnn : Dk (w4.setCells g7 0 (wcells x)) k' gb' gm' cb' cm' Wv' { DS.new with bl := laid d.ml (d.ws.take q) } := hn5.upd hu5 (fun j hj e => by
        have := hlg.1 j hj
        omega)
      have hcu : Upd (fun _ => False) w (w4.setCells g7 0 (wcells x)) := (HUr.out.trans' HU4.out).trans (S := fun _ => False) hu5 (fun j hj e => by omega)
      go_wp2_with fail
      generalize w4.setCells g7 0 (wcells x) = w5 at *
      have HN5 := Lib.hid hnn
      have HC5 := Lib.hid hcu
      have c0 : w5.cell? ⟨k', 0, none⟩ = some (.slice (some ⟨gb', 0, none⟩) 255 cb') := by rw [cell_of_row w5 k' 0 _ 61 (0, 0) hnn.cell]; rfl
      have c7 : w5.cell? ⟨g7, 0, none⟩ = some (.int .i64 (x.1 : Int)) := hr5 0 _ rfl
      have hr7 : w5.rangeAt g7 1 (bytesV x.2) := fun j v hv => by rw [Nat.add_comm]; exact (by have := hr5 (j + 1) v (by simpa [wcells] using hv); rwa [Nat.zero_add] at this)
      have hgg7 : g7 ≠ gb' := by omega
      have hkgb : gb' ≠ k' := hnn.ap.1
      obtain ⟨xi, xb⟩ := x
      simp only at c7 hr7
      have HAT' : Hid (xi < 255 ∧ xb.length = 64) := HAT.out
      have hth := hnn.bl.there xi HAT'.out.1
      have hbl : (bytesV xb).length = 64 := by rw [bytesV_length, HAT'.out.2]
      have hb1 := bytesV_one xb
      have e1 : (0 : Int) ≤ (xi : Int) := by omega
      have e2 : (xi : Int) < 255 := by have := HAT'.out.1; omega
      have hsz : (Try.prog.info? 28).map (·.size) = some (bytesV xb).length := by rw [hbl]; exact size28
      obtain ⟨B, hB⟩ : ∃ B, B = bytesV xb := ⟨_, rfl⟩
      rw [← hB] at hr7 hbl hb1 hsz
      have HB := Lib.hid hB
      have HKeep : Hid (∀ wx : World, (wx.cell? ⟨k', 0, none⟩ = some (.slice (some ⟨gb', 0, none⟩) 255 cb') ∧ wx.cell? ⟨g7, 0, none⟩ = some (.int .i64 (xi : Int)) ∧ wx.rangeAt g7 1 B ∧ wx.there gb' (xi * 64) 64) → ((wx.setCells gb' (xi * 64) B).cell? ⟨k', 0, none⟩ = some (.slice (some ⟨gb', 0, none⟩) 255 cb') ∧ (wx.setCells gb' (xi * 64) B).cell? ⟨g7, 0, none⟩ = some (.int .i64 (xi : Int)) ∧ (wx.setCells gb' (xi * 64) B).rangeAt g7 1 B ∧ (wx.setCells gb' (xi * 64) B).there gb' (xi * 64) 64)) := by
        intro wx ⟨h1, h2, h3, h4⟩
        refine ⟨?_, ?_, World.rangeAt_setCells_apart h3 _ _ _ (.inl hgg7), World.there_setCells h4 _ _ _⟩
        · rw [World.cell?_setCells_out gb' B _ wx ⟨k', 0, none⟩ (fun h => absurd h.symm hkgb)]
          exact h1
        · rw [World.cell?_setCells_out gb' B _ wx ⟨g7, 0, none⟩ (fun h => absurd h hgg7)]
          exact h2
      have hu := Try.underlying28
      clear hwl hnn hcu hr5 hu5 hn5 hlg hst hB i0 hi y0 y1 y2 hgk'
      go_region_held3 (fun wx => wx.cell? ⟨k', 0, none⟩ = some (.slice (some ⟨gb', 0, none⟩) 255 cb') ∧ wx.cell? ⟨g7, 0, none⟩ = some (.int .i64 (xi : Int)) ∧ wx.rangeAt g7 1 B ∧ wx.there gb' (xi * 64) 64) (first | exact HKeep.out _ (by assumption) | go_keep_ranges) (fail)
      rename_i hHeld
      have hX : d.ws[q]? = some (xi, xb) := HX.out
      have hfin : Dk (w5.drew.setCells gb' (xi * 64) B) k' gb' gm' cb' cm' Wv' { DS.new with bl := laid d.ml (d.ws.take (q + 1)) } := by
        rw [laid_step hX, HB.out]
        exact (HN5.out.upd ((Upd.refl (fun _ => False) w5).drew) (fun _ _ h => h)).putBl xi HAT'.out.1 xb HAT'.out.2
      have hfu : Upd (fun _ => False) w (w5.drew.setCells gb' (xi * 64) B) := upd_setCells HC5.out.drew _ _ _ (fun h => by have := HS.out gb' (.inr (.inl rfl)); omega)
      have HF1 := Lib.hid hfin
      have HF2 := Lib.hid hfu
      generalize w5.drew.setCells gb' (xi * 64) B = w6 at *
      have b3 : q + 1 ≤ m := by omega
      have b4 : m ≤ 1000000 := by have := HML.out; have := HN.out; omega
      clear hHeld hfin hfu HKeep hth hr7 c0 c7
      go_wp2_with fail
      go_roundw
      case rel => exact ⟨q + 1, by go_num, b3, HF1.out, HF2.out⟩
      case measure => simp [intOf]; omega
    · have hqm : q = m := by omega
      have HQ := Lib.hid hqm
      have hnlt : ¬ ((q : Int) < (m : Int)) := by omega
      clear hqm hlt
      go_wp2_with fail
      refine (mark_dsk k' _ _ wr ⟨gb', gm', cb', cm', Wv', HNr.out, rfl⟩).mono ?_
      rintro e w6 ⟨rfl, S6, h6, hu6, hs6⟩
      have H6 := Lib.hid h6
      have HU6 := Lib.hid hu6
      have HS6 := Lib.hid hs6
      clear h6 hu6 hs6
      go_wp2
      go_ret
      have hk' := HS.out k' (.inl rfl)
      have he : d.ws.take q = d.ws.take n := by
        rw [HQ.out, HM.out, List.take_eq_take_iff]; omega
      refine ⟨k', S6, rfl, H6.out.congr (fun i _ => by rw [DS.cut, ← he]; rfl) (fun i _ => by rw [DS.cut, ← he]; rfl) rfl rfl rfl, fun j hj => ?_, HUr.out.trans HU6.out (fun j hj e => by omega)⟩
      rcases HS6.out j hj with h | h
      · exact HS.out j h
      · have := HUr.out.size; omega
end Go.Proofs.Ytckgcfkahffibaa
