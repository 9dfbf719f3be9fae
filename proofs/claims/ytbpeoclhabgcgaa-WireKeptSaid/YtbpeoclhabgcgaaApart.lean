import Derived.Test.YtbpeoclhabgcgaaStays
namespace Go.Proofs.Ytbpeoclhabgcgaa
open Go.RowKit
set_option linter.unusedVariables false
set_option linter.unusedSimpArgs false

def mark (i j : Nat) : Int := ((i : Int) + 1) / 2 ^ (8 * (j % 3)) % 256

set_option maxHeartbeats 1000000 in
set_option maxRecDepth 100000 in
theorem mark_any (i j : Nat) (w : World) (hi : i ≤ 1000) (hj : j ≤ 9223372036854775807) : Calls Try.prog 27 #[.int .i64 i, .int .i64 j] w fun e w' => e = .returned (.int .u8 (mark i j)) ∧ w' = w := by
  have h3 : (j : Int).tmod 3 = ((j % 3 : Nat) : Int) := rfl
  have h4 : j % 3 < 3 := Nat.mod_lt _ (by omega)
  unfold mark
  go_enter Try.func27, Try.ntmps27
  go_wp2
  go_ret
  exact ⟨rfl, rfl⟩

/-- A value's whole row, its spare room too. -/
def FullV (w : World) (v : Value) (q : Nat → Value → Prop) : Prop :=
  ∃ ao n cap, v = .slice ao n cap ∧ n ≤ cap ∧ cap ≤ maxLen ∧ (cap = 0 ∨ ∃ g cur, ao = some ⟨g, 0, none⟩ ∧ w.heap[g]? = some (.cells cur 5 (0, 0)) ∧ cur.size = cap ∧ ∀ j u, cur[j]? = some u → q j u)
theorem FullV.of {w : World} {B : Nat} {v : Value} {n : Nat} {xs : List Value} {q : Nat → Value → Prop} (h : w.ownsRow B 5 1 v n xs) (hq : ∀ j u, q j u) : FullV w v q := by
  rcases h.2 with ⟨rfl, _⟩ | ⟨g, cap, cur, rfl, _, hg, h1, h2, h3, _⟩
  · exact ⟨none, 0, 0, rfl, Nat.le_refl _, by simp [maxLen], .inl rfl⟩
  · exact ⟨_, n, cap, rfl, h1, h2, .inr ⟨g, cur, rfl, hg, by omega, fun j u _ => hq j u⟩⟩
theorem FullV.upd {S : Nat → Prop} {w w' : World} {v : Value} {q : Nat → Value → Prop} (h : FullV w v q) (hu : Upd S w w') (hn : ∀ k, v.ownBlock = some k → ¬ S k) : FullV w' v q := by
  obtain ⟨ao, n, cap, rfl, h1, h2, h3⟩ := h
  refine ⟨ao, n, cap, rfl, h1, h2, ?_⟩
  rcases h3 with h3 | ⟨g, cur, rfl, hg, rest⟩
  · exact .inl h3
  · exact .inr ⟨g, cur, rfl, hu.heap_some hg (hn g rfl), rest⟩
theorem FullV.mono {w : World} {v : Value} {q q' : Nat → Value → Prop} (h : FullV w v q) (hq : ∀ j u ao n cap, v = .slice ao n cap → j < cap → q j u → q' j u) : FullV w v q' := by
  obtain ⟨ao, n, cap, rfl, h1, h2, h3⟩ := h
  refine ⟨ao, n, cap, rfl, h1, h2, ?_⟩
  rcases h3 with h3 | ⟨g, cur, rfl, hg, hs, hc⟩
  · exact .inl h3
  · exact .inr ⟨g, cur, rfl, hg, hs, fun j u hj => hq j u _ _ _ rfl (by have := (Array.getElem?_eq_some_iff.1 hj).1; omega) (hc j u hj)⟩

/-- The first i lists hold their marks, of list number i the first j places do. -/
def Marked (w : World) (E : List Ent) (i j : Nat) : Prop :=
  ∀ m (hm : m < E.length), FullV w E[m].v fun j' u => (m < i ∨ (m = i ∧ j' < j)) → u = .int .u8 (mark m j')
theorem Marked.start {w : World} {B : Nat} {Lv Wv : Value} {E : List Ent} (h : Ents w B Lv Wv E) : Marked w E 0 0 :=
  fun m hm => (FullV.of (q := fun _ _ => True) (h.v _ (List.getElem_mem hm)) (fun _ _ => trivial)).mono (fun j u _ _ _ _ _ _ h => by omega)
theorem Marked.next {w : World} {E : List Ent} {i cap : Nat} (h : Marked w E i cap) (hc : ∀ hi : i < E.length, ∀ ao n c, E[i].v = .slice ao n c → c ≤ cap) : Marked w E (i + 1) 0 :=
  fun m hm => (h m hm).mono fun j u ao n c hv hj hq hmi => by
    rcases Nat.lt_or_ge m i with h1 | h1
    · exact hq (.inl h1)
    · have : m = i := by omega
      subst this
      exact hq (.inr ⟨rfl, Nat.lt_of_lt_of_le hj (hc hm ao n c hv)⟩)
theorem Marked.heap {w w' : World} {E : List Ent} {i j : Nat} (h : Marked w E i j) (hh : w'.heap = w.heap) : Marked w' E i j := fun m hm => by
  obtain ⟨ao, n, cap, hv, h1, h2, h3⟩ := h m hm
  refine ⟨ao, n, cap, hv, h1, h2, ?_⟩
  rw [hh]; exact h3
theorem Marked.step {w : World} {E : List Ent} {i j g n cap : Nat} (h : Marked w E i j) (hi : i < E.length) (hv : E[i].v = .slice (some ⟨g, 0, none⟩) n cap) (hj : j < cap)
    (hp : E.Pairwise fun e f => ∀ j, e.v.ownBlock = some j → f.v.ownBlock ≠ some j) : Marked (w.setCell ⟨g, j, none⟩ (.int .u8 (mark i j))) E i (j + 1) := by
  intro m hm
  have hu := Upd.setCell (S := fun k => k = g) (Upd.refl (fun k => k = g) w) (p := ⟨g, j, none⟩) (fun _ => rfl) (.int .u8 (mark i j))
  by_cases hmi : m = i
  · subst hmi
    obtain ⟨ao, n', cap', hv', h1, h2, h3⟩ := h m hm
    rw [hv] at hv'
    simp only [Value.slice.injEq] at hv'
    obtain ⟨rfl, rfl, rfl⟩ := hv'
    rcases h3 with h3 | ⟨g', cur, hg', hg, hs, hc⟩
    · omega
    · simp only [Option.some.injEq, Addr.mk.injEq, and_true] at hg'
      subst hg'
      refine ⟨_, n, cap, hv, h1, h2, .inr ⟨g, _, rfl, heap_setCell_same w g j cur 5 _ hg, by simp [hs], fun j' u hj' hor => ?_⟩⟩
      by_cases hjj : j' = j
      · subst hjj
        simp [Array.getElem?_setIfInBounds] at hj'
        exact hj'.2.symm
      · rw [Array.getElem?_setIfInBounds_ne (by omega)] at hj'
        exact hc j' u hj' (by omega)
  · refine ((h m hm).upd hu fun k hk e => ?_).mono fun j' u _ _ _ _ _ hq hor => hq (by omega)
    subst e
    have hgi : E[i].v.ownBlock = some k := by rw [hv]; rfl
    rcases Nat.lt_or_gt_of_ne hmi with h1 | h1
    · exact List.pairwise_iff_getElem.1 hp m i hm hi h1 k hk hgi
    · exact List.pairwise_iff_getElem.1 hp i m hi hm h1 k hgi hk

theorem slice_full (ao : Option Addr) (n cap : Nat) (w : World) : (Instr.sliceAt 27 (.slice ao n cap) none (some (.int .i64 (cap : Int))) none).run Try.prog w = .ok (.slice ao cap cap) w := by
  have e : Try.prog.elem 27 = 5 := by unfold Program.elem; rw [Try.underlying27]
  have hU : Try.prog.underlying 27 = some (.slice (Try.prog.elem 27)) := by rw [e]; exact Try.underlying27
  rw [run_sliceAt_slice (P := Try.prog) (w := w) (h := hU), run_slice_h (P := Try.prog) (ht := hU) (h0 := by omega) (h2 := by omega)]
  obtain ⟨i0, hi, hz0, hz1, hz2⟩ := info_parts Try.info5
  have ha : ∀ a : Addr, a.add 0 = a := fun a => by unfold Addr.add; split <;> simp_all
  have hb : Option.map (fun x => x.add 0) ao = ao := by cases ao with | none => rfl | some a => simp [ha]
  by_cases h0 : cap = 0 <;> simp [sizeOf, typeInfo, e, hi, hz1, sliced, h0, hb]

set_option maxHeartbeats 2000000 in
set_option maxRecDepth 100000 in
theorem apart_any (B k : Nat) (E : List Ent) (w : World) (hb : Bk w B k E) (hE : E.length ≤ 1000) :
    Calls Try.prog 26 #[.pointer (some ⟨k, 0, none⟩), .func (.func 27) #[] #[]] w fun e w' => e = .returned (.bool true) ∧ Upd (fun j => j = k ∨ B ≤ j) w w' := by
  obtain ⟨Lv, Wv, s, hc, he⟩ := hb
  have HE := Lib.hid he
  have HC := Lib.hid hc
  have hkB := hc.kB
  clear hc he
  go_enter Try.func26, Try.ntmps26
  go_wp2_with fail
  refine (stays_any B k Lv Wv s E _ HC.out HE.out hE).mono ?_
  rintro e w1 ⟨rfl, hc, hu⟩
  have HC1 := Lib.hid hc
  have HU1 : Hid (Upd (fun j => j = k ∨ B ≤ j) w w1) := hu.mono (fun j _ e => .inl e)
  have HM1 : Hid (Marked w1 E 0 0) := Marked.start (HE.out.upd hu (fun j hj _ e => by omega))
  have HCL : Hid (∀ e ∈ E, ∃ g n cap, e.v = .slice g n cap) := fun e he => by obtain ⟨ao, cap, h, _⟩ := Bytes_own (HE.out.v e he); exact ⟨_, _, _, h⟩
  obtain ⟨aol, capl, rfl, hl1, hl2, hl3⟩ := hc.lst.shape
  have HLc := Lib.hid hl3
  simp only [List.length_map] at *
  clear hc hu hl3 HC
  go_wp2_with fail
  go_loopw [5] (fun i wr => ∃ m : Nat, i = .int .i64 m ∧ m ≤ E.length ∧ wr.heap[k]? = some (.cells #[.slice aol E.length capl, Wv, .int .i64 s, .bool false] 43 (0, 0)) ∧ Lst wr B 27 (.slice aol E.length capl) (E.map (·.v)) ∧ Marked wr E m 0 ∧ Upd (fun j => j = k ∨ B ≤ j) w wr) (fun i _ => E.length - (intOf i).toNat)
  case atStart => exact ⟨0, rfl, Nat.zero_le _, HC1.out.cell, HC1.out.lst, HM1.out, HU1.out⟩
  case round =>
    obtain ⟨m, rfl, hm, hck, hlst, hmk, hur⟩ := hrel
    have HCK := Lib.hid hck
    have HLS := Lib.hid hlst
    have HMK := Lib.hid hmk
    have HUr := Lib.hid hur
    have c0 : wr.cell? ⟨k, 0, none⟩ = some (.slice aol E.length capl) := by rw [cell_of_row wr k 0 _ 43 (0, 0) hck]; rfl
    by_cases hlt : m < E.length
    · obtain ⟨ao', cap', heq, _, _, hcell⟩ := hlst.shape
      simp only [List.length_map, Value.slice.injEq, true_and] at heq hcell
      obtain ⟨rfl, rfl⟩ := heq
      obtain ⟨gl, dl, rfl, hcl⟩ := hcell (by omega)
      have e0 := hcl m hlt
      obtain ⟨ao, n, cap, hev⟩ := HCL.out E[m] (List.getElem_mem hlt)
      simp only [List.getElem_map, hev] at e0
      have s1 := slice_full ao n cap
      have HEV := Lib.hid hev
      have i0 : (0 : Int) ≤ (m : Int) := by omega
      have i1 : (m : Int) < (E.length : Int) := by omega
      clear hcell hcl hck hlst hmk hur hev
      go_wp2_with fail
      go_quiet (fail)
      go_wp2_with fail
      go_loopw [7] (fun i wi => ∃ q : Nat, i = .int .i64 q ∧ q ≤ cap ∧ wi.heap[k]? = some (.cells #[.slice (some ⟨gl, dl, none⟩) E.length capl, Wv, .int .i64 s, .bool false] 43 (0, 0)) ∧ Lst wi B 27 (.slice (some ⟨gl, dl, none⟩) E.length capl) (E.map (·.v)) ∧ Marked wi E m q ∧ Upd (fun j => j = k ∨ B ≤ j) w wi) (fun i _ => cap - (intOf i).toNat)
      case atStart => exact ⟨0, rfl, Nat.zero_le _, HCK.out, HLS.out.upd ((Upd.refl (fun _ => False) wr).drewN nq) (fun _ _ h => h), HMK.out.heap rfl, HUr.out.drewN nq⟩
      case round =>
        obtain ⟨q, rfl, hq, hck, hlst, hmk, hui⟩ := hrel
        have HCI := Lib.hid hck
        have HLI := Lib.hid hlst
        have HMI := Lib.hid hmk
        have HUI := Lib.hid hui
        by_cases hqc : q < cap
        · have hcm : cap ≤ maxLen ∧ ∃ g cur, ao = some ⟨g, 0, none⟩ ∧ wr.heap[g]? = some (.cells cur 5 (0, 0)) ∧ cur.size = cap := by
            obtain ⟨ao', n', cap', hv', h1, h2, h3⟩ := hmk m hlt
            rw [HEV.out] at hv'
            simp only [Value.slice.injEq] at hv'
            obtain ⟨rfl, rfl, rfl⟩ := hv'
            rcases h3 with h3 | ⟨g, cur, h4, h5, h6, _⟩
            · omega
            · exact ⟨h2, g, cur, h4, h5, h6⟩
          obtain ⟨hcm, g, cur, rfl, hg, hsz⟩ := hcm
          have hgB := ((HE.out.v _ (List.getElem_mem hlt)).lt g (by rw [HEV.out]; rfl)).1
          have hgl : gl ≠ g := fun e => (HE.out.lv _ (List.getElem_mem hlt) g (by rw [HEV.out]; rfl)).1 (by rw [e]; rfl)
          have x0 : ∃ u, wr.cell? ⟨g, q, none⟩ = some u := by
            rw [cell_of_row wr g q _ 5 (0, 0) hg]
            exact ⟨cur[q]'(by omega), by simp [hsz, hqc]⟩
          obtain ⟨x, x0⟩ := x0
          have x1 := frozen_of_row wr g q _ 5 hg
          have hu1 := Upd.setCell (S := fun j => j = g) (Upd.refl (fun j => j = g) wr) (p := ⟨g, q, none⟩) (fun _ => rfl) (.int .u8 (mark m q))
          have HF := Lib.hid (And.intro (hu1.heap_some HCI.out (fun e => by omega)) (And.intro (HLI.out.upd hu1 (fun j hj e => by simp [Value.ownBlock] at hj; omega)) (And.intro (HMI.out.step hlt HEV.out hqc HE.out.vv) (HUI.out.setCell (p := ⟨g, q, none⟩) (fun _ => .inr hgB) (.int .u8 (mark m q))))))
          have j0 : (0 : Int) ≤ (q : Int) := by omega
          have j1 : (q : Int) < (cap : Int) := by omega
          have hm1 : m ≤ 1000 := by omega
          have hq1 : q ≤ 9223372036854775807 := by unfold maxLen at hcm; omega
          have hq2 : q < 9223372036854775807 := by unfold maxLen at hcm; omega
          clear hck hlst hmk hui hg hu1 hcm
          go_wp2_with fail
          refine (mark_any m q _ hm1 hq1).mono ?_
          rintro e wz ⟨rfl, rfl⟩
          go_wp2_with fail
          go_roundw
          case rel => exact ⟨q + 1, by go_num, by omega, HF.out.1, HF.out.2.1, HF.out.2.2.1, HF.out.2.2.2⟩
          case measure => simp [intOf]; omega
        · have f1 : decide (q < cap) = false := by simp; omega
          have hqe : q = cap := by omega
          have HN : Hid (Marked wr E (m + 1) 0) := Marked.next (cap := cap) (by rw [← hqe]; exact HMI.out) (fun hi ao' n' c h => by rw [HEV.out] at h; simp only [Value.slice.injEq] at h; omega)
          clear hck hlst hmk hui hqc hqe
          go_wp2_with fail
          go_roundw
          case rel => exact ⟨m + 1, by go_num, by omega, HCI.out, HLI.out, HN.out, HUI.out⟩
          case measure => simp [intOf]; omega
    · have f1 : decide (m < E.length) = false := by simp; omega
      have hme : m = E.length := by omega
      have HMA : Hid (Marked wr E E.length 0) := by rw [← hme]; exact hmk
      clear hck hlst hmk hur hlt hme HMK
      go_wp2_with fail
      go_loopw [8] (fun i wi => ∃ m : Nat, i = .int .i64 m ∧ m ≤ E.length ∧ ∃ nd, wi = wr.drewN nd) (fun i _ => E.length - (intOf i).toNat)
      case atStart => exact ⟨0, rfl, Nat.zero_le _, 0, rfl⟩
      case round =>
        obtain ⟨m, rfl, hm, nd, rfl⟩ := hrel
        by_cases hlt : m < E.length
        · obtain ⟨ao', cap', heq, _, _, hcell⟩ := HLS.out.shape
          simp only [List.length_map, Value.slice.injEq, true_and] at heq hcell
          obtain ⟨rfl, rfl⟩ := heq
          obtain ⟨gl, dl, rfl, hcl⟩ := hcell (by omega)
          have e0 := hcl m hlt
          obtain ⟨ao, n, cap, hev⟩ := HCL.out E[m] (List.getElem_mem hlt)
          simp only [List.getElem_map, hev] at e0
          have s1 := slice_full ao n cap
          have HEV := Lib.hid hev
          have i0 : (0 : Int) ≤ (m : Int) := by omega
          have i1 : (m : Int) < (E.length : Int) := by omega
          clear hcell hcl hev
          go_wp2_with fail
          go_quiet (fail)
          go_wp2_with fail
          go_loopw [10] (fun i wi => ∃ q : Nat, i = .int .i64 q ∧ q ≤ cap ∧ ∃ nd, wi = wr.drewN nd) (fun i _ => cap - (intOf i).toNat)
          case atStart => exact ⟨0, rfl, Nat.zero_le _, _, by rw [World.drewN_drewN]⟩
          case round =>
            obtain ⟨q, rfl, hq, nd, rfl⟩ := hrel
            by_cases hqc : q < cap
            · have hcm : cap ≤ maxLen ∧ ∃ g, ao = some ⟨g, 0, none⟩ ∧ wr.cell? ⟨g, q, none⟩ = some (.int .u8 (mark m q)) := by
                obtain ⟨ao', n', cap', hv', h1, h2, h3⟩ := HMA.out m hlt
                rw [HEV.out] at hv'
                simp only [Value.slice.injEq] at hv'
                obtain ⟨rfl, rfl, rfl⟩ := hv'
                rcases h3 with h3 | ⟨g, cur, h4, h5, h6, h7⟩
                · omega
                · refine ⟨h2, g, h4, ?_⟩
                  rw [cell_of_row wr g q _ 5 (0, 0) h5]
                  have : cur[q]? = some (cur[q]'(by omega)) := by simp [h6, hqc]
                  rw [this, h7 q _ this (.inl hlt)]
              obtain ⟨hcm, g, rfl, hg⟩ := hcm
              have j0 : (0 : Int) ≤ (q : Int) := by omega
              have j1 : (q : Int) < (cap : Int) := by omega
              have hm1 : m ≤ 1000 := by omega
              have hq1 : q ≤ 9223372036854775807 := by unfold maxLen at hcm; omega
              have hq2 : q < 9223372036854775807 := by unfold maxLen at hcm; omega
              clear hcm
              go_wp2_with fail
              go_cut [91] from 83 to 91 (fun t wx => t = .bool false ∧ ∃ nd, wx = wr.drewN nd)
              case first =>
                go_region_with (go_at_call 27; refine (mark_any m q _ hm1 hq1).mono ?_; rintro e wz ⟨rfl, rfl⟩)
                all_goals (
                  go_wp2_with fail
                  go_meet
                  exact ⟨rfl, _, by first | rw [World.drewN_drewN] | rfl⟩)
              case rest =>
              obtain ⟨rfl, nd', rfl⟩ := hcut
              go_wp2_with fail
              go_roundw
              case rel => exact ⟨q + 1, by go_num, by omega, _, rfl⟩
              case measure => simp [intOf]; omega
            · have f1 : decide (q < cap) = false := by simp; omega
              clear hqc
              go_wp2_with fail
              go_roundw
              case rel => exact ⟨m + 1, by go_num, by omega, _, rfl⟩
              case measure => simp [intOf]; omega
        · have f2 : decide (m < E.length) = false := by simp; omega
          have HKr := HCK.out
          have z0 := frozen_of_row wr k 0 _ 43 HKr
          have z1 := frozen_of_row wr k 1 _ 43 HKr
          have z2 := frozen_of_row wr k 2 _ 43 HKr
          have y1 : wr.cell? ⟨k, 1, none⟩ = some Wv := by rw [cell_of_row wr k 1 _ 43 (0, 0) HKr]; rfl
          have y2 : wr.cell? ⟨k, 2, none⟩ = some (.int .i64 s) := by rw [cell_of_row wr k 2 _ 43 (0, 0) HKr]; rfl
          clear HKr
          go_wp2_with fail
          go_ret
          exact ⟨rfl, (((HUr.out.drewN _).setCell (p := ⟨k, 0, none⟩) (fun _ => .inl rfl) _).setCell (p := ⟨k, 1, none⟩) (fun _ => .inl rfl) _).setCell (p := ⟨k, 2, none⟩) (fun _ => .inl rfl) _⟩
end Go.Proofs.Ytbpeoclhabgcgaa
