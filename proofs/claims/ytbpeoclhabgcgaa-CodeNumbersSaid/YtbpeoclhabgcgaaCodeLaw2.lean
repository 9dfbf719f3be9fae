import Derived.Test.YtbpeoclhabgcgaaCodeLaw
namespace Go.Proofs.Ytbpeoclhabgcgaa
set_option linter.unusedVariables false
set_option linter.unusedSimpArgs false
/-- The reader behind all of it has refused for good. -/
theorem oneC_dead {s : List UInt8} {op : Int} {r r1 : RS} (hr : RS.byte ⟨s, 0, 0, 0⟩ = (r, op)) (h1 : r.form (okOp op) = r1) (c : RS × Int × Int × List UInt8) (hc : cBody op r1 = c) (h : c.1.why ≠ 0) : (oneC s).1 = c.1 := by
  show (words (stR (RS.byte ⟨s, 0, 0, 0⟩).2 (stB _ (stN _ _ (stA _ (cBody (RS.byte ⟨s, 0, 0, 0⟩).2 ((RS.byte ⟨s, 0, 0, 0⟩).1.form (okOp (RS.byte ⟨s, 0, 0, 0⟩).2))).1).1).1).1).1 _).1 = c.1
  rw [hr]
  simp only
  rw [h1, hc]
  have e1 := stA_stuck h op
  rw [e1]
  have e2 := stN_stuck h op (stA op c.1).2
  rw [e2]
  have e3 := stB_stuck h op
  rw [e3]
  have e4 := stR_stuck h op
  rw [e4]
  exact words_all h _
theorem cls {w : Int} (h : w = 0 ∨ w = 3 ∨ w = 10 ∨ w = 12) (h0 : w ≠ 0) : (if w = 12 ∨ w = 3 then (12 : Int) else 10) = (if w = 10 then 10 else 12) := by
  rcases h with rfl | rfl | rfl | rfl
  · exact absurd rfl h0
  · rfl
  · rfl
  · rfl
/-- What is to be shown of one instruction. -/
def Law1 (l : List UInt8) (p : Nat) : Prop :=
  ((oneR l p).1 = 0 ∧ ((oneC (l.drop p)).1.fin.1 = 0 ∨ (oneC (l.drop p)).1.fin.1 = 11) ∧ ((oneR l p).2.1.p : Int) = sizeC (l.drop p) + p ∧ 1 ≤ sizeC (l.drop p) ∧ (oneR l p).2.1.p ≤ l.length ∧
    (oneR l p).2.2 = { (oneC (l.drop p)).2.1 with at_ := (p : Int), tos := ((oneC (l.drop p)).2.1.tos.map (· + sizeC (l.drop p))).map (· + (p : Int)) }) ∨
  ((oneR l p).1 ≠ 0 ∧ ¬ ((oneC (l.drop p)).1.fin.1 = 0 ∨ (oneC (l.drop p)).1.fin.1 = 11) ∧ (oneR l p).1 = (if (oneC (l.drop p)).1.fin.1 = 10 then 10 else 12))
theorem law_bad {l : List UInt8} {p : Nat} (ho : (oneR l p).1 = 12) (hc : (oneC (l.drop p)).1.why = 12) : Law1 l p := by
  right
  have hf : (oneC (l.drop p)).1.fin.1 = 12 := by rw [fin_bad (by omega), hc]
  rw [hf, ho]
  exact ⟨by omega, by omega, by simp⟩
theorem stA_sim {k : Nat} {r r' : RS} (h : Sim k r r') (op : Int) : Sim k (stA op r).1 (stA op r').1 ∧ (stA op r).2 = (stA op r').2 := by
  unfold stA; split
  · exact h.byte
  · exact ⟨h, rfl⟩
theorem stB_sim {k : Nat} {r r' : RS} (h : Sim k r r') (op : Int) : Sim k (stB op r).1 (stB op r').1 ∧ (stB op r).2 = (stB op r').2 := by
  unfold stB; split
  · exact h.byte
  · exact ⟨h, rfl⟩
theorem rR_sim {k : Nat} {r r' : RS} (h : Sim k r r') (op : Int) : Sim k (rR op r).1 (rR op r').1 ∧ (rR op r).2 = (rR op r').2 := by
  unfold rR; split
  · exact h.word
  · exact ⟨h, rfl⟩
theorem rBody_sim {k : Nat} {r r' : RS} (h : Sim k r r') (op : Int) : Sim k (rBody op r).1 (rBody op r').1 ∧ (rBody op r).2 = (rBody op r').2 := by
  unfold rBody
  split
  · have h1 := h.signed
    have h2 := h1.1.signed
    exact ⟨h2.1, by rw [h1.2, h2.2]⟩
  · split
    · have := h.text 200
      exact ⟨this.1, by rw [this.2]⟩
    · exact ⟨h, rfl⟩
theorem start_eq {l : List UInt8} {p : Nat} (hp : p < l.length) : RS.byte ⟨l.drop p, 0, 0, 0⟩ = (⟨l.drop p, 1, 0, 0⟩, opAt l p) := by
  have hd : l.drop p = l[p] :: l.drop (p + 1) := List.drop_eq_getElem_cons hp
  have h1 : ¬ ((l.drop p).length : Int) - ((0 : Nat) : Int) < 1 := by rw [List.length_drop]; omega
  unfold RS.byte RS.take RS.took opAt
  simp only
  rw [if_pos trivial, if_neg h1, if_pos ⟨trivial, h1⟩]
  rw [hd]
  rfl
theorem start_sim {l : List UInt8} {p : Nat} (hp : p < l.length) : Sim p ⟨l.drop p, 1, 0, 0⟩ ⟨l, p + 1, 0, 0⟩ := ⟨rfl, by show p + 1 = 1 + p; omega, rfl, by show 1 + p ≤ l.length; omega⟩
theorem asksN_neg {op : Int} : asksN op < 0 ↔ op = 10 := by
  unfold asksN
  constructor
  · intro h
    by_cases h1 : op = 5 ∨ op = 6
    · rw [if_pos h1] at h; omega
    · rw [if_neg h1] at h
      by_cases h2 : op = 10
      · exact h2
      · rw [if_neg h2] at h; omega
  · intro h; subst h; decide
theorem rN_eq {op A : Int} (h : op ≠ 10) : rN op A = asksN op := by
  unfold rN asksN; simp [h]
theorem asksB_ten : stB 10 = fun r => (r, 0) := by funext r; simp [stB, asksB]
theorem form_true (r : RS) : r.form true = r := rfl
theorem rBody_l (op : Int) (r : RS) : (rBody op r).1.l = r.l := by
  unfold rBody
  split
  · exact (RS.signed_l _).trans (RS.signed_l _)
  · split
    · exact RS.text_l _ _
    · rfl
theorem rR_l (op : Int) (r : RS) : (rR op r).1.l = r.l := by unfold rR; split; exact word_l _; rfl
theorem take_p (r : RS) (n : Int) : r.p ≤ (r.take n).p := by
  unfold RS.take
  split
  · split
    · exact Nat.le_refl _
    · exact Nat.le_add_right _ _
  · exact Nat.le_refl _
theorem number_p (r : RS) (n : Int) : r.p ≤ (r.number n).1.p := by
  unfold RS.number
  split
  · obtain ⟨N, s, y, hN⟩ : ∃ N s y, numR (r.l.drop r.p) = (N, s, y) := ⟨_, _, _, rfl⟩
    rw [hN]
    simp only
    split
    · exact Nat.le_refl _
    · split
      · exact Nat.le_refl _
      · split
        · exact Nat.le_refl _
        · exact Nat.le_add_right _ _
  · exact Nat.le_refl _
theorem rBody_p (op : Int) (r : RS) : r.p ≤ (rBody op r).1.p := by
  unfold rBody
  split
  · exact Nat.le_trans (number_p r maxU) (number_p _ maxU)
  · split
    · exact Nat.le_trans (number_p r _) (take_p _ _)
    · exact Nat.le_refl _
theorem stA_p (op : Int) (r : RS) : r.p ≤ (stA op r).1.p := by unfold stA; split; exact take_p _ _; exact Nat.le_refl _
theorem stB_p (op : Int) (r : RS) : r.p ≤ (stB op r).1.p := by unfold stB; split; exact take_p _ _; exact Nat.le_refl _
theorem rR_p (op : Int) (r : RS) : r.p ≤ (rR op r).1.p := by unfold rR; split; exact take_p _ _; exact Nat.le_refl _
theorem words_p (r : RS) : ∀ n, r.p ≤ (words r n).1.p
  | 0 => Nat.le_refl _
  | n + 1 => Nat.le_trans (words_p r n) (take_p _ _)
theorem one_law {l : List UInt8} {p : Nat} (hp : p < l.length) : Law1 l p := by
  have hs := start_eq hp
  have h0 := start_sim hp
  obtain ⟨op, ho⟩ : ∃ op, opAt l p = op := ⟨_, rfl⟩
  rw [ho] at hs
  generalize hrc : (⟨l.drop p, 1, 0, 0⟩ : RS) = rc at *
  obtain ⟨rr, hrr⟩ : ∃ rr : RS, rr = ⟨l, p + 1, 0, 0⟩ := ⟨_, rfl⟩
  rw [← hrr] at h0
  have hrc0 : rc.why = 0 := by rw [← hrc]
  have hwr0 : Wh rr := by rw [hrr]; exact .inl rfl
  have hc12 : ∀ c : RS × Int × Int × List UInt8, cBody op (rc.form (okOp op)) = c → c.1.why = 12 → (oneC (l.drop p)).1.why = 12 := by
    intro c hc h
    rw [oneC_dead hs rfl c hc (by omega), h]
  cases hok : okOp op
  · refine law_bad (oneR_op ho hok) (hc12 _ rfl ?_)
    rw [hok]
    have hf := form_false hrc0
    rw [body_stuck (by omega)]
    exact hf
  · rw [hok, form_true] at hc12
    have hb := rBody_sim h0 op
    obtain ⟨r2', x, y, tx, hb'⟩ : ∃ r2' x y tx, rBody op rr = (r2', x, y, tx) := ⟨_, _, _, _, rfl⟩
    obtain ⟨r2, hb2⟩ : ∃ r2, rBody op rc = (r2, x, y, tx) := ⟨(rBody op rc).1, by rw [hb'] at hb; exact Prod.ext rfl hb.2⟩
    rw [hb', hb2] at hb
    have s2 : Sim p r2 r2' := hb.1
    have hw2 : Wh r2' := by
      have : Wh (rBody op rr).1 := by
        unfold rBody
        split
        · exact (hwr0.number maxU).number maxU
        · split
          · exact hwr0.text 200
          · exact hwr0
      rw [hb'] at this; exact this
    cases hb1 : bad1 op (rBody op rr)
    rotate_left
    · refine law_bad (oneR_b1 ho hok hrr hb1) (hc12 _ rfl ?_)
      rw [hb'] at hb1
      simp only [bad1, Bool.and_eq_true, decide_eq_true_eq, Bool.not_eq_true'] at hb1
      obtain ⟨h1, h2, h3⟩ := hb1
      have hr2 : r2.why = 0 := by rw [s2.why, h2]
      subst h1
      have e1 : rBody 1 rc = (rc.signed.1.signed.1, rc.signed.2, rc.signed.1.signed.2, []) := rfl
      rw [e1] at hb2
      simp only [Prod.mk.injEq] at hb2
      show (rc.signed.1.signed.1.form (fits rc.signed.2 && fits rc.signed.1.signed.2)).why = 12
      rw [hb2.1, hb2.2.1, hb2.2.2.1, h3]
      exact form_false hr2
    · have hcb : cBody op rc = (r2, x, y, tx) := by
        by_cases h1 : op = 1
        · subst h1
          have e1 : rBody 1 rc = (rc.signed.1.signed.1, rc.signed.2, rc.signed.1.signed.2, []) := rfl
          rw [e1] at hb2
          simp only [Prod.mk.injEq] at hb2
          show (rc.signed.1.signed.1.form (fits rc.signed.2 && fits rc.signed.1.signed.2), rc.signed.2, rc.signed.1.signed.2, []) = (r2, x, y, tx)
          rw [hb2.1, hb2.2.1, hb2.2.2.1, ← hb2.2.2.2]
          rw [hb'] at hb1
          have hfo : r2.form (fits x && fits y) = r2 := by
            by_cases hw : r2.why = 0
            · have : (fits x && fits y) = true := by
                simp only [bad1, decide_true, Bool.true_and, ← s2.why, hw] at hb1
                simpa using hb1
              rw [this]; rfl
            · exact form_stuck hw _
          rw [hfo]
        · unfold cBody
          unfold rBody at hb2
          rw [if_neg h1] at hb2 ⊢
          exact hb2
      obtain ⟨r3', A, ha'⟩ : ∃ r3' A, stA op r2' = (r3', A) := ⟨_, _, rfl⟩
      have hsa := stA_sim s2 op
      obtain ⟨r3, ha⟩ : ∃ r3, stA op r2 = (r3, A) := ⟨(stA op r2).1, by rw [ha'] at hsa; exact Prod.ext rfl hsa.2⟩
      rw [ha, ha'] at hsa
      have s3 : Sim p r3 r3' := hsa.1
      obtain ⟨r5', B, hB'⟩ : ∃ r5' B, stB op r3' = (r5', B) := ⟨_, _, rfl⟩
      have hsb := stB_sim s3 op
      obtain ⟨r5, hB⟩ : ∃ r5, stB op r3 = (r5, B) := ⟨(stB op r3).1, by rw [hB'] at hsb; exact Prod.ext rfl hsb.2⟩
      rw [hB, hB'] at hsb
      have s5 : Sim p r5 r5' := hsb.1
      have hw5 : Wh r5' := by
        have h3 : Wh r3' := by
          have : Wh (stA op r2').1 := by unfold stA; split; exact hw2.take 1; exact hw2
          rw [ha'] at this; exact this
        have : Wh (stB op r3').1 := by unfold stB; split; exact h3.take 1; exact h3
        rw [hB'] at this; exact this
      have hone : ∀ rn M, stN op A r3 = (rn, M) → ∀ rb B2, stB op rn = (rb, B2) → ∀ rs rf, stR op rb = (rs, rf) → oneC (l.drop p) = ((words rs M.toNat).1, ⟨0, op, A, B2, x, y, tx, (words rs M.toNat).2⟩, rf) := by
        intro rn M hn rb B2 hbb rs rf hrs
        unfold oneC
        simp only [hs, hok, form_true, hcb, ha, hn, hbb, hrs]
      cases hb2b : bad2 op A r5'
      rotate_left
      · refine law_bad (oneR_b2 ho hok hrr hb1 hb' ha' hB' hb2b) ?_
        simp only [bad2, Bool.and_eq_true, decide_eq_true_eq, Bool.not_eq_true'] at hb2b
        obtain ⟨h1, h2, h3⟩ := hb2b
        subst h1
        rw [asksB_ten] at hB
        simp only [Prod.mk.injEq] at hB
        have hr3 : r3.why = 0 := by rw [hB.1, s5.why, h2]
        have hn : stN 10 A r3 = (r3.form false, min A 6) := by
          unfold stN
          rw [if_pos (by decide), h3]
        have hf := form_false hr3
        have hne : (r3.form false).why ≠ 0 := by omega
        have hq := hone _ _ hn _ _ rfl _ _ rfl
        rw [hq]
        show (words (stR 10 (stB 10 (r3.form false)).1).1 _).1.why = 12
        rw [stB_stuck hne, stR_stuck hne, words_all hne, hf]
      · -- the forms before the reference change nothing
        have hnn : stN op A r3 = (r3, (stN op A r3).2) := by
          by_cases h10 : op = 10
          · subst h10
            have hfo : r3.form (decide (1 ≤ A) && decide (A ≤ 6)) = r3 := by
              by_cases hw : r3.why = 0
              · rw [asksB_ten] at hB
                simp only [Prod.mk.injEq] at hB
                have : r5'.why = 0 := by rw [← s5.why, ← hB.1, hw]
                have h6 : (decide (1 ≤ A) && decide (A ≤ 6)) = true := by
                  simp only [bad2, decide_true, Bool.true_and, this] at hb2b
                  simpa using hb2b
                rw [h6]; rfl
              · exact form_stuck hw _
            unfold stN
            rw [if_pos (by decide), hfo]
          · unfold stN
            rw [if_neg (by rw [asksN_neg]; exact h10)]
        obtain ⟨M, hM⟩ : ∃ M, M = (stN op A r3).2 := ⟨_, rfl⟩
        rw [← hM] at hnn
        have hMr : r5'.why = 0 → M = rN op A := by
          intro hw
          by_cases h10 : op = 10
          · subst h10
            have h6 : 1 ≤ A ∧ A ≤ 6 := by
              simp only [bad2, decide_true, Bool.true_and, hw] at hb2b
              simpa using hb2b
            rw [hM]
            unfold stN rN
            rw [if_pos (by decide)]
            show min A 6 = A
            omega
          · rw [hM, rN_eq h10]
            unfold stN
            rw [if_neg (by rw [asksN_neg]; exact h10)]
        obtain ⟨r6', ref, hR'⟩ : ∃ r6' ref, rR op r5' = (r6', ref) := ⟨_, _, rfl⟩
        have hsr := rR_sim s5 op
        obtain ⟨r6, hR⟩ : ∃ r6, rR op r5 = (r6, ref) := ⟨(rR op r5).1, by rw [hR'] at hsr; exact Prod.ext rfl hsr.2⟩
        rw [hR, hR'] at hsr
        have s6 : Sim p r6 r6' := hsr.1
        by_cases href : ref ≠ 0
        · refine law_bad (oneR_b3 ho hok hrr hb1 hb' ha' hB' hb2b hR' href) ?_
          have ht : takesB op = true := by
            cases h : takesB op
            · unfold rR at hR; rw [h] at hR; simp only [Bool.false_eq_true, if_false, Prod.mk.injEq] at hR; exact absurd hR.2.symm href
            · rfl
          have hRw : r5.word = (r6, ref) := by unfold rR at hR; rw [ht] at hR; simpa using hR
          have hto : r5.took 2 ≠ [] := by
            intro e
            have : r5.word.2 = 0 := by unfold RS.word; rw [e]; rfl
            rw [hRw] at this; exact href this
          have hr6 : r6.why = 0 := by
            have := took_ok r5 2 hto
            have e : r5.word.1 = r5.take 2 := rfl
            rw [hRw] at e
            rw [show r6 = r5.take 2 from e]; exact this
          have hst : stR op r5 = (r6.form false, ref) := by
            unfold stR
            rw [if_pos ht, hRw]
            simp [href]
          have hf := form_false hr6
          have hne : (r6.form false).why ≠ 0 := by omega
          rw [hone _ _ hnn _ _ hB _ _ hst]
          show (words (r6.form false) _).1.why = 12
          rw [words_all hne, hf]
        · have href : ref = 0 := by simpa using href
          have hst : stR op r5 = (r6, ref) := by
            unfold stR
            cases h : takesB op
            · unfold rR at hR; rw [h] at hR; simpa using hR
            · unfold rR at hR; rw [h] at hR
              have hR : r5.word = (r6, ref) := by simpa using hR
              simp only [if_true, hR, href, decide_true]
              rfl
          have hC := hone _ _ hnn _ _ hB _ _ hst
          have hO := oneR_end ho hok hrr hb1 hb' ha' hB' hb2b hR' href
          have hw6 : Wh r6' := by
            have : Wh (rR op r5').1 := by unfold rR; split; exact hw5.take 2; exact hw5
            rw [hR'] at this; exact this
          -- the words
          have hwd : (words r6' (rN op A).toNat).1.why = 0 → M = rN op A := by
            intro h
            apply hMr
            by_cases hz : r5'.why = 0
            · exact hz
            · exfalso
              have : r6' = r5' := by have := rR_stuck hz op; rw [hR'] at this; exact this
              rw [this, words_all hz] at h
              exact hz h
          have hl6 : r6'.l = l := by
            have e1 := rBody_l op rr
            rw [hb', hrr] at e1
            have e2 := stA_l op r2'
            rw [ha'] at e2
            have e3 := stB_l op r3'
            rw [hB'] at e3
            have e4 := rR_l op r5'
            rw [hR'] at e4
            simp only at e1 e2 e3 e4
            rw [e4, e3, e2, e1]
          have hp6 : p + 1 ≤ r6'.p := by
            have e1 := rBody_p op rr
            rw [hb', hrr] at e1
            have e2 := stA_p op r2'
            rw [ha'] at e2
            have e3 := stB_p op r3'
            rw [hB'] at e3
            have e4 := rR_p op r5'
            rw [hR'] at e4
            simp only at e1 e2 e3 e4
            omega
          by_cases hz : (words r6' (rN op A).toNat).1.why = 0
          · have hMe := hwd hz
            have hws := s6.words M.toNat
            have hl7 := words_l r6' (rN op A).toNat
            have hp7 := words_p r6' (rN op A).toNat
            rw [hl6] at hl7
            rw [hMe] at hws hC
            rw [if_pos hz] at hO
            generalize words r6' (rN op A).toNat = W' at *
            generalize words r6 (rN op A).toNat = W at *
            have sW : Sim p W.1 W'.1 := hws.1
            have hWz : W.1.why = 0 := by rw [sW.why, hz]
            have hWp := sW.p
            have hWle := sW.le
            rw [hl7] at hWle
            have hsz : sizeC (l.drop p) = (W.1.p : Int) := by
              unfold sizeC
              rw [hC]
              show ((l.drop p).length : Int) - W.1.left = _
              have hWl : W.1.l = l.drop p := by rw [sW.l, hl7]
              have : W.1.p ≤ (l.drop p).length := by rw [List.length_drop]; omega
              unfold RS.left
              rw [if_pos hWz, hWl]
              omega
            left
            refine ⟨by rw [hO], by rw [hC]; exact fin_good hWz, ?_, by rw [hsz]; omega, ?_, ?_⟩
            · rw [hO, hsz]; show (W'.1.p : Int) = _; omega
            · rw [hO]; show W'.1.p ≤ _; omega
            · rw [hO, hsz, hC]
              show IV.mk p op A B x y tx _ = IV.mk p op A B x y tx _
              congr 1
              rw [← hws.2, List.map_map]
              refine List.map_congr_left fun z _ => ?_
              show z + (W'.1.p : Int) = z + (W.1.p : Int) + (p : Int)
              omega
          · rw [if_neg hz] at hO
            have hww : (words r6 M.toNat).1.why = (words r6' (rN op A).toNat).1.why := by
              by_cases h6 : r6'.why = 0
              · have h5 : r5'.why = 0 := by
                  by_cases hz : r5'.why = 0
                  · exact hz
                  · exfalso
                    have : r6' = r5' := by have := rR_stuck hz op; rw [hR'] at this; exact this
                    rw [this] at h6
                    exact hz h6
                rw [hMr h5]
                exact (s6.words _).1.why
              · rw [words_all h6, words_all (by rw [s6.why]; exact h6), s6.why]
            have hfin : (oneC (l.drop p)).1.fin.1 = (words r6' (rN op A).toNat).1.why := by
              rw [hC]
              show (words r6 M.toNat).1.fin.1 = _
              rw [fin_bad (by rw [hww]; exact hz), hww]
            have hfr := fin_bad hz
            have hW := hw6.words (rN op A).toNat
            have hcl := cls hW hz
            have hone : (oneR l p).1 = (if (words r6' (rN op A).toNat).1.why = 10 then 10 else 12) := by
              rw [hO, ← hcl, hfr]
              split <;> rfl
            right
            refine ⟨?_, ?_, ?_⟩
            · rw [hone]; split <;> omega
            · rw [hfin]
              rcases hW with h | h | h | h
              · exact absurd h hz
              all_goals (rw [h]; omega)
            · rw [hfin, hone]
end Go.Proofs.Ytbpeoclhabgcgaa
