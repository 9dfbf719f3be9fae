import Derived.Test.YtaphlhggmdhffaaOpens
namespace Go.Proofs.Ytaphlhggmdhffaa
open Go.RowKit
set_option linter.unusedVariables false
set_option linter.unusedSimpArgs false
theorem own_lt {w : World} {base : Nat} {e : TypeId} {size : Nat} {v : Value} {n : Nat} {xs : List Value} (h : w.ownsRow base e size v n xs) {j : Nat} (hj : v.ownBlock = some j) : j < w.heap.size := by
  rcases h.2 with ⟨rfl, _⟩ | ⟨g, cap, cur, rfl, hb, hg, _⟩
  · simp [Value.ownBlock] at hj
  · simp [Value.ownBlock] at hj; subst hj; exact (Array.getElem?_eq_some_iff.1 hg).1
/-- Whether a name's end is among the first q. -/
def hadB (L : Names) (q : Nat) (c : ByteArray) : Bool := inB c ((L.take q).map La)
theorem hadB_zero (L : Names) (c : ByteArray) : hadB L 0 c = false := by simp [hadB, inB]
theorem hadB_step {L : Names} {q : Nat} {s : ByteArray} (h : L[q]? = some s) (c : ByteArray) : hadB L (q + 1) c = (hadB L q c || decide (La s = c)) := by
  unfold hadB inB
  rw [casesS_step h, List.any_append]
  simp
/-- The least number at or behind m. -/
def NumF (C : Names) (y : ByteArray) (m : Nat) (n : Int) : Prop :=
  (n = -1 ∧ ∀ j, m ≤ j → C[j]? ≠ some y) ∨ ∃ i : Nat, n = i ∧ m ≤ i ∧ C[i]? = some y ∧ ∀ j, m ≤ j → j < i → C[j]? ≠ some y
theorem NumF.start (C : Names) (y : ByteArray) : NumF C y C.length (-1) := .inl ⟨rfl, fun j hj h => by rw [List.getElem?_eq_none hj] at h; cases h⟩
theorem NumF.hit {C : Names} {y : ByteArray} {m : Nat} (h : C[m]? = some y) : NumF C y m m := .inr ⟨m, rfl, Nat.le_refl _, h, fun j h1 h2 => by omega⟩
theorem NumF.miss {C : Names} {y : ByteArray} {m : Nat} {n : Int} (h : NumF C y (m + 1) n) (hm : C[m]? ≠ some y) : NumF C y m n := by
  rcases h with ⟨rfl, h⟩ | ⟨i, rfl, hi, hc, h⟩
  · refine .inl ⟨rfl, fun j hj => ?_⟩
    by_cases e : j = m
    · subst e; exact hm
    · exact h j (by omega)
  · refine .inr ⟨i, rfl, by omega, hc, fun j h1 h2 => ?_⟩
    by_cases e : j = m
    · subst e; exact hm
    · exact h j (by omega) h2
theorem NumF.numP {C : Names} {y : ByteArray} {n : Int} (h : NumF C y 0 n) : NumP C y n := by
  rcases h with ⟨rfl, h⟩ | ⟨i, rfl, hi, hc, h⟩
  · refine .inl ⟨rfl, fun hm => ?_⟩
    obtain ⟨j, hj, he⟩ := List.getElem_of_mem hm
    exact h j (Nat.zero_le _) (by rw [List.getElem?_eq_getElem hj, he])
  · refine .inr ⟨i, rfl, hc, fun hm => ?_⟩
    obtain ⟨j, hj, he⟩ := List.getElem_of_mem hm
    simp only [List.length_take] at hj
    rw [List.getElem_take] at he
    exact h j (Nat.zero_le _) (by omega) (by rw [List.getElem?_eq_getElem (by omega), he])
theorem NumF.lt {C : Names} {y : ByteArray} {m : Nat} {n : Int} (h : NumF C y m n) : -1 ≤ n ∧ n < C.length := by
  rcases h with ⟨rfl, h⟩ | ⟨i, rfl, hi, hc, h⟩
  · omega
  · have := (List.getElem?_eq_some_iff.1 hc).1; omega
theorem CS.cell {w : World} {b off q : Nat} {s : ByteArray} (h : w.rangeAt b (off + q * 2) [.string s, .slice none 0 0]) : w.cell? ⟨b, off + q * 2, none⟩ = some (.string s) := h 0 _ rfl
theorem same_true' (u v : Value) (A : Names) (w : World) (hA : SS w u A) (hB : SS w v A) : Calls Try.prog 10 #[u, v] w fun e w' => e = .returned (.bool true) ∧ Upd (fun _ => False) w w' := same_true u v A A w hA hB rfl
theorem SS.cells {w : World} {ao : Option Addr} {n cap : Nat} {L : Names} (h : SS w (.slice ao n cap) L) : L = [] ∨ ∃ b off, ao = some ⟨b, off, none⟩ ∧ ∀ i (h : i < L.length), w.cell? ⟨b, off + i, none⟩ = some (.string L[i]) := by
  obtain ⟨a, c, hv, _, _, h⟩ := h
  simp only [Value.slice.injEq] at hv
  obtain ⟨rfl, _, rfl⟩ := hv
  exact h
theorem CS.cells {w : World} {ao : Option Addr} {n cap : Nat} {L : Names} (h : CS w (.slice ao n cap) L) : L = [] ∨ ∃ b off, ao = some ⟨b, off, none⟩ ∧ ∀ i (h : i < L.length), w.rangeAt b (off + i * 2) [.string L[i], .slice none 0 0] := by
  obtain ⟨a, c, hv, _, _, h⟩ := h
  simp only [Value.slice.injEq] at hv
  obtain ⟨rfl, _, rfl⟩ := hv
  exact h
theorem hadB_full {L : Names} {c : ByteArray} : hadB L L.length c = true ↔ c ∈ L.map La := by
  unfold hadB; rw [List.take_length, inB_iff]
def twiceF (L : Names) (q : Nat) (s : ByteArray) : Bool := hadB L q (La s)
theorem twice_yes {L : Names} {q : Nat} {s : ByteArray} (h : L[q]? = some s) (hb : hadB L q (La s) = true) : twiceTo L (q + 1) = twiceTo L q ++ [s] := twiceTo_in h (inB_iff.1 hb)
theorem twice_no {L : Names} {q : Nat} {s : ByteArray} (h : L[q]? = some s) (hb : hadB L q (La s) = false) : twiceTo L (q + 1) = twiceTo L q := twiceTo_out h (fun hm => by have := inB_iff.2 hm; unfold hadB at hb; rw [hb] at this; cases this)
theorem SS.at' {w : World} {b off : Nat} {L : Names} (h : L = [] ∨ ∃ b' off', some (⟨b, off, none⟩ : Addr) = some ⟨b', off', none⟩ ∧ ∀ i (h : i < L.length), w.cell? ⟨b', off' + i, none⟩ = some (.string L[i])) {q : Nat} {s : ByteArray} (hs : L[q]? = some s) : w.cell? ⟨b, off + q, none⟩ = some (.string s) := by
  obtain ⟨hq, rfl⟩ := List.getElem?_eq_some_iff.1 hs
  rcases h with rfl | ⟨b', off', h, hc⟩
  · simp at hq
  · simp only [Option.some.injEq, Addr.mk.injEq, and_true] at h
    obtain ⟨rfl, rfl⟩ := h
    exact hc q hq
theorem own_drew {w wr : World} {base : Nat} {e : TypeId} {size : Nat} {v : Value} {n : Nat} {xs : List Value} (h : w.ownsRow base e size v n xs) (hw : ∃ nd, wr = w.drewN nd) : wr.ownsRow base e size v n xs := by
  obtain ⟨nd, rfl⟩ := hw; exact h
theorem Upd.of_drew {S : Nat → Prop} {a w wr : World} (h : Upd S a w) (hw : ∃ nd, wr = w.drewN nd) : Upd S a wr := by
  obtain ⟨nd, rfl⟩ := hw; exact h.drewN nd
theorem drew_more {w wr : World} {n : Nat} (hw : ∃ nd, wr = w.drewN nd) : ∃ nd, wr.drewN n = w.drewN nd := by
  obtain ⟨nd, rfl⟩ := hw; exact ⟨_, World.drewN_drewN _ _ _⟩
theorem tl_eq {s t : ByteArray} (e : s = t) : (s.toList == t.toList) = true := by rw [e]; simp
set_option maxHeartbeats 8000000 in
set_option maxRecDepth 100000 in
theorem tells_any (u u' : Value) (l L0 : Names) (w : World) (hl : SS w u l) (hzl : Sz l) (hL : SS w u' L0) (hz : Sz L0) :
    Calls Try.prog 4 #[u, u'] w fun e w' => e = .returned (.bool true) ∧ Upd (fun _ => False) w w' := by
  have HL := Lib.hid hL
  have HZ := Lib.hid hz
  have HI := Lib.hid hl
  have HZI := Lib.hid hzl
  obtain ⟨ao, ca, rfl, hca, hcm, _⟩ := hL
  clear hl hzl hz
  go_enter Try.func4, Try.ntmps4
  go_upto_if 19 with fail
  go_cut [1] (fun s wx => wx = w ∧ ∃ L, SS w s L ∧ Sz L ∧ L.length ≤ 12)
  case first =>
    by_cases h12 : L0.length ≤ 12
    · have f1 : ¬ ((12 : Int) < (L0.length : Int)) := by omega
      go_wp2_with fail
      go_meet
      exact ⟨rfl, L0, HL.out, HZ.out, h12⟩
    · have f1 : ((12 : Int) < (L0.length : Int)) := by omega
      have f2 : 12 ≤ ca := by omega
      go_wp2_with fail
      go_meet
      exact ⟨rfl, L0.take 12, HL.out.pre (by omega), HZ.out.pre 12, by simp; omega⟩
  case rest =>
    obtain ⟨rfl, L, hL, hz, hn⟩ := hcut
    have HL := Lib.hid hL
    have HZ := Lib.hid hz
    obtain ⟨al, cl, rfl, hcl, hcml, _⟩ := hL
    clear hz
    go_wp2_with fail
    refine (cases_any u l _ HI.out HZI.out).mono ?_
    rintro e w1 ⟨vc, rfl, hC, hu⟩
    have HC := Lib.hid hC
    have HLC := Lib.hid (show (casesS l).length ≤ 10 from casesS_len l)
    have HSC := Lib.hid (show ∀ c ∈ casesS l, La c = c from fun c h => La_cases h)
    have HZC := Lib.hid HZI.out.cases
    generalize casesS l = C at *
    have HU := Lib.hid hu
    clear hu
    obtain ⟨ac, cc, rfl, hcc, hccm, _⟩ := hC
    have HL1 := Lib.hid (HL.out.upd HU.out)
    go_upto_block 0 with fail
    go_cut [6] (fun s wx => SS wx s (missTo C L C.length) ∧ Upd (fun _ => False) w1 wx)
    case first =>
      go_wp2_with fail
      go_loopw [9, 6] (fun i v wr => ∃ q : Nat, i = .int .i64 q ∧ q ≤ C.length ∧ wr.ownsRow w1.heap.size 9 1 v (missTo C L q).length (strV (missTo C L q)) ∧ Upd (fun _ => False) w1 wr) (fun i _ _ => C.length - (intOf i).toNat)
      case atStart => exact ⟨0, rfl, Nat.zero_le _, World.ownsRow_nil _ _ _ _, Upd.refl _ _⟩
      case round =>
        obtain ⟨q, rfl, hq, ho, hu⟩ := hrel
        have HO := Lib.hid ho
        have HU := Lib.hid hu
        clear ho hu
        by_cases hlt : q < C.length
        · obtain ⟨b, off, c, rfl, hs, c1⟩ := CS.read HC.out.cells hlt
          have HR := Lib.hid (show wr.rangeAt b (off + q * 2) [.string c, .slice none 0 0] from fun j v hv => HU.out.cell_some (c1 j v hv) (fun h => h))
          have g2 := CS.cell HR.out
          have HSq := Lib.hid hs
          have HC1 := Lib.hid (HSC.out c (List.mem_of_getElem? hs))
          have HC2 := Lib.hid (HZC.out c (List.mem_of_getElem? hs))
          have f1 : (q : Int) < (C.length : Int) := by omega
          have f0 : (0 : Int) ≤ (q : Int) := by omega
          have f3 : decide (q < C.length) = true := by simp; omega
          have f4 : q + 1 ≤ C.length := by omega
          have hlen := missTo_len C L q
          have f10 := HLC.out
          clear hs c1 hlt hq
          go_wp2_with fail
          go_loopw [10, 11] (fun f k wr2 => ∃ (r : Nat) (bb : Bool), k = .int .i64 r ∧ r ≤ L.length ∧ f = .bool bb ∧ Hid (bb = hadB L r c) ∧ Hid (∃ nd, wr2 = wr.drewN nd)) (fun _ k _ => L.length - (intOf k).toNat)
          case atStart => exact ⟨0, false, rfl, Nat.zero_le _, rfl, Lib.hid (by rw [hadB_zero]), Lib.hid ⟨0, rfl⟩⟩
          case round =>
            rename_i wr0
            obtain ⟨r, bb, rfl, hr, rfl, HB, HW⟩ := hrel
            have HU2 := Lib.hid (show Upd (fun _ => False) w1 wr by obtain ⟨nd, rfl⟩ := HW.out; exact HU.out.drewN nd)
            have HO2 := Lib.hid (show wr.ownsRow w1.heap.size 9 1 u6 (missTo C L q).length (strV (missTo C L q)) by obtain ⟨nd, rfl⟩ := HW.out; exact HO.out)
            have gg : wr.cell? ⟨b, off + q * 2, none⟩ = some (.string c) := by obtain ⟨nd, rfl⟩ := HW.out; exact g2
            clear g2
            by_cases hlr : r < L.length
            · obtain ⟨b2, off2, s, rfl, hs2, c2⟩ := SS.read HL1.out.cells hlr
              have c2 := HU2.out.cell_some c2 (fun h => h)
              have HB1 := Lib.hid (show hadB L (r + 1) c = (bb || decide (La s = c)) by rw [hadB_step hs2, HB.out])
              have HS1 := Lib.hid (HZ.out s (List.mem_of_getElem? hs2))
              have k1 : (r : Int) < (L.length : Int) := by omega
              have k0 : (0 : Int) ≤ (r : Int) := by omega
              have k3 : decide (r < L.length) = true := by simp; omega
              have k4 : r + 1 ≤ L.length := by omega
              clear hs2 hlr hr
              cases bb
              · by_cases e : La s = c
                · have e5 := tl_eq e
                  have HE := Lib.hid e
                  clear e
                  go_wp2_with fail
                  go_quiet ((first | (go_at_call_of 14 (Value.string s); refine Calls.quiet_of_same (ol_any s HS1.out _)) | (go_at_call_of 14 (Value.string c); refine Calls.quiet_of_same (ol_self c HC1.out HC2.out _))))
                  go_wp2_with fail
                  go_roundw
                  case rel => exact ⟨r + 1, true, by go_num, k4, rfl, Lib.hid (by rw [HB1.out, HE.out]; simp), Lib.hid (by obtain ⟨nd, h⟩ := HW.out; rw [h]; exact ⟨_, World.drewN_drewN _ _ _⟩)⟩
                  case measure => simp [intOf]; omega
                · have e5 := tl_ne e
                  have HE := Lib.hid e
                  clear e
                  go_wp2_with fail
                  go_quiet ((first | (go_at_call_of 14 (Value.string s); refine Calls.quiet_of_same (ol_any s HS1.out _)) | (go_at_call_of 14 (Value.string c); refine Calls.quiet_of_same (ol_self c HC1.out HC2.out _))))
                  go_wp2_with fail
                  go_roundw
                  case rel => exact ⟨r + 1, false, by go_num, k4, rfl, Lib.hid (by rw [HB1.out]; simp [HE.out]), Lib.hid (by obtain ⟨nd, h⟩ := HW.out; rw [h]; exact ⟨_, World.drewN_drewN _ _ _⟩)⟩
                  case measure => simp [intOf]; omega
              · go_wp2_with fail
                go_quiet (fail)
                go_wp2_with fail
                go_roundw
                case rel => exact ⟨r + 1, true, by go_num, k4, rfl, Lib.hid (by rw [HB1.out]; simp), Lib.hid (by obtain ⟨nd, h⟩ := HW.out; rw [h]; exact ⟨_, World.drewN_drewN _ _ _⟩)⟩
                case measure => simp [intOf]; omega
            · have hr' : r = L.length := by omega
              subst hr'
              have k1 : ¬ ((L.length : Int) < (L.length : Int)) := by omega
              clear hlr hr
              cases bb
              · have HN := Lib.hid (show c ∉ L.map La from fun h => by have := HB.out; rw [hadB_full.2 h] at this; cases this)
                have HE := Lib.hid (missTo_in HSq.out HN.out)
                obtain ⟨i9, hi9, y0, y1, y2⟩ := info_parts info9
                have HO3 := Lib.hid (ownsRow_upd HO2.out ((Upd.refl (fun _ => False) wr).alloc (.cells #[.string c] 9)) (fun _ _ h => h))
                have HSR := Lib.hid (news_src (size := 1) Try.underlying24 (w := wr) (e' := 9) [.string c] 1 rfl (by simp [Value.oneCell']))
                have HWS := Lib.hid HU2.out.size
                go_wp2_with (at_builtin; go_loud (refine wpList_append_src_own _ rfl (.tmp 53) (.tmp 59) 24 24 rfl w1.heap.size 9 i9 _ 1 16 Try.underlying24 hi9 y0 y1 y2 rfl u6 (missTo C L q).length _ rfl HO3.out _ 1 _ rfl HSR.out (by unfold maxLen; omega) (by omega) (by have := HWS.out; simp; omega) ?c5))
                case c5 =>
                intro v' w5 p1 p2 p3 p4
                have HO5 := Lib.hid (show w5.ownsRow w1.heap.size 9 1 v' (missTo C L (q + 1)).length (strV (missTo C L (q + 1))) by rw [HE.out, strV_app, List.length_append]; exact p1)
                have HU5 := Lib.hid (Upd.app HO3.out (HU2.out.alloc _) p2)
                clear p1 p2 p3 p4
                go_wp2_with fail
                go_roundw
                case rel => exact ⟨q + 1, by go_num, f4, HO5.out, HU5.out⟩
                case measure => simp [intOf]; omega
              · have HN := Lib.hid (show c ∈ L.map La from hadB_full.1 HB.out.symm)
                have HE := Lib.hid (missTo_out HSq.out HN.out)
                go_wp2_with fail
                go_roundw
                case rel => exact ⟨q + 1, by go_num, f4, by rw [HE.out]; exact HO2.out, HU2.out⟩
                case measure => simp [intOf]; omega
        · have hq' : q = C.length := by omega
          subst hq'
          have f1 : ¬ ((C.length : Int) < (C.length : Int)) := by omega
          clear hlt hq
          go_wp2_with fail
          go_meet
          exact ⟨SS_own HO.out, HU.out⟩
    case rest =>
      obtain ⟨hM, hu⟩ := hcut
      obtain ⟨w2, hw2⟩ : ∃ w2, w2 = wc := ⟨_, rfl⟩
      subst hw2
      have HM := Lib.hid hM
      have HC2 := Lib.hid (HC.out.upd hu)
      have HL2 := Lib.hid (HL1.out.upd hu)
      have HU2 := Lib.hid (HU.out.trans' hu)
      clear hM hu HC HL1 HU
      go_wp2_with fail
      go_loopw [12, 7, 8] (fun i x t wr => ∃ q : Nat, i = .int .i64 q ∧ q ≤ L.length ∧ wr.ownsRow w2.heap.size 9 1 x (extraTo C L q).length (strV (extraTo C L q)) ∧ wr.ownsRow w2.heap.size 9 1 t (twiceTo L q).length (strV (twiceTo L q)) ∧ (∀ j, x.ownBlock = some j → t.ownBlock = some j → False) ∧ Upd (fun _ => False) w2 wr) (fun i _ _ _ => L.length - (intOf i).toNat)
      case atStart => exact ⟨0, rfl, Nat.zero_le _, World.ownsRow_nil _ _ _ _, World.ownsRow_nil _ _ _ _, fun j h => by simp [Value.ownBlock] at h, Upd.refl _ _⟩
      case round =>
        obtain ⟨q, rfl, hq, hx, ht, ha, hu⟩ := hrel
        have HX := Lib.hid hx
        have HT := Lib.hid ht
        have HA := Lib.hid ha
        have HU := Lib.hid hu
        clear hx ht ha hu
        by_cases hlt : q < L.length
        · obtain ⟨b, off, s, rfl, hs, c1⟩ := SS.read HL2.out.cells hlt
          have g1 := HU.out.cell_some c1 (fun h => h)
          have HSq := Lib.hid hs
          have HS := Lib.hid (HZ.out s (List.mem_of_getElem? hs))
          have f1 : (q : Int) < (L.length : Int) := by omega
          have f0 : (0 : Int) ≤ (q : Int) := by omega
          have f3 : decide (q < L.length) = true := by simp; omega
          have f4 : q + 1 ≤ L.length := by omega
          have hlenx := extraTo_len C L q
          have hlent := twiceTo_len L q
          have f10 := HLC.out
          clear hs c1 hlt hq
          go_wp2_with fail
          go_loopw [13, 14] (fun n k wr2 => ∃ (m : Nat) (z : Int), m ≤ C.length ∧ k = .int .i64 ((m : Int) - 1) ∧ n = .int .i64 z ∧ Hid (NumF C (La s) m z) ∧ Hid (∃ nd, wr2 = wr.drewN nd)) (fun _ k _ => (intOf k + 1).toNat)
          case atStart => exact ⟨C.length, -1, Nat.le_refl _, rfl, rfl, Lib.hid (NumF.start _ _), Lib.hid ⟨0, rfl⟩⟩
          case round =>
            rename_i wr0
            obtain ⟨m, z, hm, rfl, rfl, HN, HW⟩ := hrel
            have HUb := Lib.hid (show Upd (fun _ => False) w2 wr by obtain ⟨nd, rfl⟩ := HW.out; exact HU.out.drewN nd)
            have HXb := Lib.hid (show wr.ownsRow w2.heap.size 9 1 u7 (extraTo C L q).length (strV (extraTo C L q)) by obtain ⟨nd, rfl⟩ := HW.out; exact HX.out)
            have HTb := Lib.hid (show wr.ownsRow w2.heap.size 9 1 u8 (twiceTo L q).length (strV (twiceTo L q)) by obtain ⟨nd, rfl⟩ := HW.out; exact HT.out)
            have gg : wr.cell? ⟨b, off + q, none⟩ = some (.string s) := by obtain ⟨nd, rfl⟩ := HW.out; exact g1
            clear g1
            by_cases hm0 : m = 0
            · subst hm0
              have k1 : ¬ ((0 : Int) ≤ ((0 : Nat) : Int) - 1) := by omega
              have HP := Lib.hid HN.out.numP
              clear hm
              go_wp2_with fail
              refine (number_is _ C s z (fun m hm => numP_fun hm HP.out) HS.out _ (HC2.out.upd HUb.out)).mono ?_
              rintro e w3 ⟨rfl, hu3⟩
              have HUc := Lib.hid (HUb.out.trans' hu3)
              have HXc := Lib.hid (ownsRow_upd HXb.out hu3 (fun _ _ h => h))
              have HTc := Lib.hid (ownsRow_upd HTb.out hu3 (fun _ _ h => h))
              have gg := hu3.cell_some gg (fun h => h)
              clear hu3
              go_upto_if 96 with fail
              go_cut [7] (fun x wx => wx.ownsRow w2.heap.size 9 1 x (extraTo C L (q + 1)).length (strV (extraTo C L (q + 1))) ∧ wx.ownsRow w2.heap.size 9 1 u8 (twiceTo L q).length (strV (twiceTo L q)) ∧ (∀ j, x.ownBlock = some j → u8.ownBlock = some j → False) ∧ Upd (fun _ => False) w2 wx)
              case first =>
                rcases HP.out with ⟨rfl, hn⟩ | ⟨i, rfl, hi, _⟩
                · have HE := Lib.hid (extraTo_in HSq.out hn)
                  clear hn
                  obtain ⟨i9, hi9, y0, y1, y2⟩ := info_parts info9
                  have HX2 := Lib.hid (ownsRow_upd HXc.out ((Upd.refl (fun _ => False) w3).alloc (.cells #[.string s] 9)) (fun _ _ h => h))
                  have HSR := Lib.hid (news_src (size := 1) Try.underlying24 (w := w3) (e' := 9) [.string s] 1 rfl (by simp [Value.oneCell']))
                  have HWS := Lib.hid HUc.out.size
                  go_wp2_with (at_builtin; refine wpList_append_src_own _ rfl (.tmp 97) (.tmp 102) 24 24 rfl w2.heap.size 9 i9 _ 1 16 Try.underlying24 hi9 y0 y1 y2 rfl u7 (extraTo C L q).length _ rfl HX2.out _ 1 _ rfl HSR.out (by unfold maxLen; omega) (by omega) (by have := HWS.out; simp; omega) ?c8)
                  case c8 =>
                  intro v' w5 p1 p2 p3 p4
                  go_wp2_with fail
                  go_meet
                  refine ⟨by rw [HE.out, strV_app, List.length_append]; exact p1, ?_, ?_, Upd.app HX2.out (HUc.out.alloc _) p2⟩
                  · exact ownsRow_upd HTc.out (((Upd.refl (fun _ => False) w3).alloc (.cells #[.string s] 9)).mono (fun _ _ h => h.elim) |>.trans' (Upd.ofGrown p2)) (fun k hk h => HA.out k h hk)
                  · intro j h1 h2
                    rcases p3 j h1 with h | h
                    · exact HA.out j h h2
                    · have := own_lt HTc.out h2
                      have : w3.heap.size ≤ j := by first | omega | (simp at h; omega)
                      omega
                · have HE := Lib.hid (extraTo_out HSq.out (List.mem_of_getElem? hi))
                  have k2 : ¬ ((i : Int) < 0) := by omega
                  clear hi
                  go_wp2_with fail
                  go_meet
                  exact ⟨by rw [HE.out]; exact HXc.out, HTc.out, HA.out, HUc.out⟩
              case rest =>
                obtain ⟨hx, ht, ha, hu⟩ := hcut
                have HXd := Lib.hid hx
                have HTd := Lib.hid ht
                have HAd := Lib.hid ha
                have HUd := Lib.hid hu
                have g1 := HUd.out.cell_some (SS.at' HL2.out.cells HSq.out) (fun h => h)
                clear hx ht ha hu gg
                go_wp2_with fail
                go_loopw [15, 16] (fun f k wr2 => ∃ (r : Nat) (bb : Bool), k = .int .i64 r ∧ r ≤ q ∧ f = .bool bb ∧ Hid (bb = hadB L r (La s)) ∧ Hid (∃ nd, wr2 = wc.drewN nd)) (fun _ k _ => q - (intOf k).toNat)
                case atStart => exact ⟨0, false, rfl, Nat.zero_le _, rfl, Lib.hid (by rw [hadB_zero]), Lib.hid ⟨0, rfl⟩⟩
                case round =>
                  obtain ⟨r, bb, rfl, hr, rfl, HB, HWd⟩ := hrel
                  have HUe := Lib.hid (HUd.out.of_drew HWd.out)
                  have HXe := Lib.hid (own_drew HXd.out HWd.out)
                  have HTe := Lib.hid (own_drew HTd.out HWd.out)
                  have gg : wr.cell? ⟨b, off + q, none⟩ = some (.string s) := by obtain ⟨nd, rfl⟩ := HWd.out; exact g1
                  clear g1
                  by_cases hrq : r < q
                  · obtain ⟨s2, hs2⟩ : ∃ s2, L[r]? = some s2 := ⟨_, List.getElem?_eq_getElem (show r < L.length by omega)⟩
                    have g2 := HUe.out.cell_some (SS.at' HL2.out.cells hs2) (fun h => h)
                    have HB1 := Lib.hid (show hadB L (r + 1) (La s) = (bb || decide (La s2 = La s)) by rw [hadB_step hs2, HB.out])
                    have HS2 := Lib.hid (HZ.out s2 (List.mem_of_getElem? hs2))
                    have k1 : (r : Int) < (q : Int) := by omega
                    have k5 : (r : Int) < (L.length : Int) := by omega
                    have k0 : (0 : Int) ≤ (r : Int) := by omega
                    have k3 : decide (r < q) = true := by simp; omega
                    have k6 : decide (r < L.length) = true := by simp; omega
                    have k4 : r + 1 ≤ q := by omega
                    clear hs2 hrq hr
                    cases bb
                    · by_cases e : La s2 = La s
                      · have e5 := tl_eq e
                        have HE := Lib.hid e
                        clear e
                        go_wp2_with fail
                        go_quiet ((first | (go_at_call_of 14 (Value.string s); refine Calls.quiet_of_same (ol_any s HS.out _)) | (go_at_call_of 14 (Value.string s2); refine Calls.quiet_of_same (ol_any s2 HS2.out _))))
                        go_wp2_with fail
                        go_roundw
                        case rel => exact ⟨r + 1, true, by go_num, k4, rfl, Lib.hid (by rw [HB1.out, HE.out]; simp), Lib.hid (drew_more HWd.out)⟩
                        case measure => (try simp [intOf]) <;> (try omega)
                      · have e5 := tl_ne e
                        have HE := Lib.hid e
                        clear e
                        go_wp2_with fail
                        go_quiet ((first | (go_at_call_of 14 (Value.string s); refine Calls.quiet_of_same (ol_any s HS.out _)) | (go_at_call_of 14 (Value.string s2); refine Calls.quiet_of_same (ol_any s2 HS2.out _))))
                        go_wp2_with fail
                        go_roundw
                        case rel => exact ⟨r + 1, false, by go_num, k4, rfl, Lib.hid (by rw [HB1.out]; simp [HE.out]), Lib.hid (drew_more HWd.out)⟩
                        case measure => (try simp [intOf]) <;> (try omega)
                    · go_wp2_with fail
                      go_quiet (fail)
                      go_wp2_with fail
                      go_roundw
                      case rel => exact ⟨r + 1, true, by go_num, k4, rfl, Lib.hid (by rw [HB1.out]; simp), Lib.hid (drew_more HWd.out)⟩
                      case measure => (try simp [intOf]) <;> (try omega)
                  · have hrq' : r = q := by omega
                    subst hrq'
                    have k1 : ¬ ((r : Int) < (r : Int)) := by omega
                    clear hrq hr
                    cases bb
                    · have HE := Lib.hid (twice_no HSq.out HB.out.symm)
                      go_wp2_with fail
                      go_roundw
                      case rel => exact ⟨r + 1, by go_num, f4, HXe.out, by rw [HE.out]; exact HTe.out, HAd.out, HUe.out⟩
                      case measure => (try simp [intOf]) <;> (try omega)
                    · have HE := Lib.hid (twice_yes HSq.out HB.out.symm)
                      obtain ⟨i9, hi9, y0, y1, y2⟩ := info_parts info9
                      have HT3 := Lib.hid (ownsRow_upd HTe.out ((Upd.refl (fun _ => False) wr).alloc (.cells #[.string s] 9)) (fun _ _ h => h))
                      have HSR := Lib.hid (news_src (size := 1) Try.underlying24 (w := wr) (e' := 9) [.string s] 1 rfl (by simp [Value.oneCell']))
                      have HWS := Lib.hid HUe.out.size
                      go_wp2_with (at_builtin; refine wpList_append_src_own _ rfl (.tmp 124) (.tmp 129) 24 24 rfl w2.heap.size 9 i9 _ 1 16 Try.underlying24 hi9 y0 y1 y2 rfl u8 (twiceTo L r).length _ rfl HT3.out _ 1 _ rfl HSR.out (by unfold maxLen; omega) (by omega) (by have := HWS.out; simp; omega) ?c9)
                      case c9 =>
                      intro v' w5 p1 p2 p3 p4
                      have HO5 := Lib.hid (show w5.ownsRow w2.heap.size 9 1 v' (twiceTo L (r + 1)).length (strV (twiceTo L (r + 1))) by rw [HE.out, strV_app, List.length_append]; exact p1)
                      have HU5 := Lib.hid (Upd.app HT3.out (HUe.out.alloc _) p2)
                      have HX5 := Lib.hid (ownsRow_upd HXe.out (((Upd.refl (fun _ => False) wr).alloc (.cells #[.string s] 9)).mono (fun _ _ h => h.elim) |>.trans' (Upd.ofGrown p2)) (fun k hk h => HAd.out k hk h))
                      have HA5 := Lib.hid (fun j (h2 : u7.ownBlock = some j) (h1 : v'.ownBlock = some j) => show False by
                        rcases p3 j h1 with h | h
                        · exact HAd.out j h2 h
                        · have := own_lt HXe.out h2
                          have : wr.heap.size ≤ j := by first | omega | (simp at h; omega)
                          omega)
                      clear p1 p2 p3 p4
                      go_wp2_with fail
                      go_roundw
                      case rel => exact ⟨r + 1, by go_num, f4, HX5.out, HO5.out, HA5.out, HU5.out⟩
                      case measure => (try simp [intOf]) <;> (try omega)
            · obtain ⟨m, rfl⟩ : ∃ m', m = m' + 1 := ⟨m - 1, by omega⟩
              have hi : ((m + 1 : Nat) : Int) - 1 = (m : Int) := by omega
              rw [hi]
              have hmC : m < C.length := by omega
              obtain ⟨b2, off2, c, rfl, hs2, c2⟩ := CS.read HC2.out.cells hmC
              have hr2 : wr.rangeAt b2 (off2 + m * 2) [.string c, .slice none 0 0] := fun j v hv => HUb.out.cell_some (c2 j v hv) (fun h => h)
              have g3 := CS.cell hr2
              have HC3 := Lib.hid (HSC.out c (List.mem_of_getElem? hs2))
              have HC4 := Lib.hid (HZC.out c (List.mem_of_getElem? hs2))
              have k1 : (0 : Int) ≤ (m : Int) := by omega
              have k2 : (m : Int) < (C.length : Int) := by omega
              have k3 : decide (m < C.length) = true := by simp; omega
              have k4 : m ≤ C.length := by omega
              have HQ := Lib.hid hs2
              clear hs2 c2 hr2 hm hm0 hmC hi
              by_cases e : c = La s
              · have e5 := tl_eq e
                have HE := Lib.hid (show NumF C (La s) m m from NumF.hit (by rw [HQ.out, e]))
                clear e
                go_wp2_with fail
                go_quiet ((first | (go_at_call_of 14 (Value.string s); refine Calls.quiet_of_same (ol_any s HS.out _)) | (go_at_call_of 14 (Value.string c); refine Calls.quiet_of_same (ol_self c HC3.out HC4.out _))))
                go_wp2_with fail
                go_roundw
                case rel => exact ⟨m, m, k4, by go_num, rfl, HE, Lib.hid (by obtain ⟨nd, h⟩ := HW.out; rw [h]; exact ⟨_, World.drewN_drewN _ _ _⟩)⟩
                case measure => (try simp [intOf]) <;> (try omega)
              · have e5 := tl_ne e
                have HE := Lib.hid (HN.out.miss (by rw [HQ.out]; exact fun h => e (Option.some.inj h)))
                clear e
                go_wp2_with fail
                go_quiet ((first | (go_at_call_of 14 (Value.string s); refine Calls.quiet_of_same (ol_any s HS.out _)) | (go_at_call_of 14 (Value.string c); refine Calls.quiet_of_same (ol_self c HC3.out HC4.out _))))
                go_wp2_with fail
                go_roundw
                case rel => exact ⟨m, z, k4, by go_num, rfl, HE, Lib.hid (by obtain ⟨nd, h⟩ := HW.out; rw [h]; exact ⟨_, World.drewN_drewN _ _ _⟩)⟩
                case measure => (try simp [intOf]) <;> (try omega)
        · have hq' : q = L.length := by omega
          subst hq'
          have f1 : ¬ ((L.length : Int) < (L.length : Int)) := by omega
          clear hlt hq
          have f10 := HLC.out
          have HX1 := Lib.hid (SS_own HX.out)
          have HT1 := Lib.hid (SS_own HT.out)
          go_wp2_with fail
          refine (missing_any _ _ C L _ (HC2.out.upd HU.out) HZC.out (by omega) (HL2.out.upd HU.out) HZ.out (by omega)).mono ?_
          rintro e w3 ⟨V3, rfl, hS, hu⟩
          have HUf := Lib.hid (HU.out.trans' hu)
          have HX1 := Lib.hid (HX1.out.upd hu)
          have HT1 := Lib.hid (HT1.out.upd hu)
          have HS3 := Lib.hid hS
          clear hS hu
          go_wp2_with fail
          refine (same_true' _ _ (missTo C L C.length) _ HS3.out (HM.out.upd HUf.out)).mono ?_
          rintro e w4 ⟨rfl, hu⟩
          have HUf := Lib.hid (HUf.out.trans' hu)
          have HX1 := Lib.hid (HX1.out.upd hu)
          have HT1 := Lib.hid (HT1.out.upd hu)
          clear hu
          go_wp2_with fail
          refine (extra_any _ _ C L _ (HC2.out.upd HUf.out) (HL2.out.upd HUf.out) HZ.out (by omega)).mono ?_
          rintro e w5 ⟨V5, rfl, hS, hu⟩
          have HUf := Lib.hid (HUf.out.trans' hu)
          have HX1 := Lib.hid (HX1.out.upd hu)
          have HT1 := Lib.hid (HT1.out.upd hu)
          have HS5 := Lib.hid hS
          clear hS hu
          go_wp2_with fail
          refine (same_true' _ _ (extraTo C L L.length) _ HS5.out HX1.out).mono ?_
          rintro e w6 ⟨rfl, hu⟩
          have HUf := Lib.hid (HUf.out.trans' hu)
          have HT1 := Lib.hid (HT1.out.upd hu)
          clear hu
          go_wp2_with fail
          refine (twice_any _ L _ (HL2.out.upd HUf.out) HZ.out (by omega)).mono ?_
          rintro e w7 ⟨V7, rfl, hS, hu⟩
          have HUf := Lib.hid (HUf.out.trans' hu)
          have HT1 := Lib.hid (HT1.out.upd hu)
          have HS7 := Lib.hid hS
          clear hS hu
          go_wp2_with fail
          refine (same_true' _ _ (twiceTo L L.length) _ HS7.out HT1.out).mono ?_
          rintro e w8 ⟨rfl, hu⟩
          have HUf := Lib.hid (HUf.out.trans' hu)
          clear hu
          go_wp2_with fail
          refine (known_any _).mono ?_
          rintro e w9 ⟨rfl, hu⟩
          have HUf := Lib.hid (HUf.out.trans' hu)
          clear hu
          go_wp2_with fail
          go_ret
          exact ⟨rfl, HU2.out.trans' HUf.out⟩
end Go.Proofs.Ytaphlhggmdhffaa
