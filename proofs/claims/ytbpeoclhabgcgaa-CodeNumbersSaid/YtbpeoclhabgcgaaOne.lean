import Derived.Test.YtbpeoclhabgcgaaOneMem
namespace Go.Proofs.Ytbpeoclhabgcgaa
open Go.RowKit
set_option linter.unusedVariables false
set_option linter.unusedSimpArgs false
set_option maxHeartbeats 4000000 in
set_option maxRecDepth 100000 in
theorem cone_any (v : Value) (s : List UInt8) (w : World) (hb : Bytes w v s) (hl : s.length ≤ 2048) (hs0 : s.length ≠ 0) :
    Calls Try.prog 59 #[v, .bool true] w (OneP s w) := by
  have HB := Lib.hid hb
  obtain ⟨ao, cap, rfl, hcap, hcm, _⟩ := hb
  go_enter Try.func59, Try.ntmps59
  go_wp2_with fail
  refine (newReader_any _ _ _ (Bytes_upd HB.out ((Upd.refl (fun _ => False) w).alloc _) (fun _ _ h => h)) (by omega)).mono ?_
  rintro e w1 ⟨a, vs, rfl, hb1, hb2, hr, hu⟩
  rw [World.size_alloc] at hb1
  have HB1 := Lib.hid hb1
  have HB2 := Lib.hid (show ∀ j, vs.ownBlock = some j → w.heap.size + 1 ≤ j from fun j hj => by have := hb2 j hj; rwa [World.size_alloc] at this)
  have HU := Lib.hid hu
  have HR := Lib.hid hr
  clear hb1 hb2 hu hr
  go_wp2_with fail
  have HCR := Lib.hid (show CR (w1.alloc (.cells #[.pointer (some ⟨a, 0, none⟩), .bool false] 108)) w1.heap.size a from heap_alloc_new w1 _)
  refine (byte_any w1.heap.size a vs _ _ HCR.out (HR.out.upd ((Upd.refl (fun _ => False) w1).alloc _) (fun _ _ _ h => h))).mono ?_
  rintro e w2 ⟨rfl, hp⟩
  have HP := Lib.hid hp
  clear hp
  obtain ⟨op, hop⟩ : ∃ op, op = (RS.byte ⟨s, 0, 0, 0⟩).2 := ⟨_, rfl⟩
  have HOP := Lib.hid hop
  have hopr := byte_range ⟨s, 0, 0, 0⟩
  rw [← hop] at hopr
  rw [← hop]
  clear hop
  have HOW0 := Lib.hid (OW.start HB1.out HB2.out HU.out HR.out HP.out op)
  clear HB1 HB2 HU HR HCR HP
  go_upto_region 3 with fail
  obtain ⟨w3, hw3⟩ : ∃ w3, w3 = w2.alloc (.cells #[.int .i64 0, .int .i64 op, .int .i64 0, .int .i64 0, .complex .f64 0 0, .string ⟨#[]⟩, .slice none 0 0] 83) := ⟨_, rfl⟩
  rw [← hw3] at HOW0 ⊢
  obtain ⟨k4, hk4⟩ : ∃ k, k = w.heap.size := ⟨_, rfl⟩
  obtain ⟨k8, hk8⟩ : ∃ k, k = w1.heap.size := ⟨_, rfl⟩
  obtain ⟨k9, hk9⟩ : ∃ k, k = w2.heap.size := ⟨_, rfl⟩
  rw [← hk4, ← hk8, ← hk9] at HOW0 ⊢
  clear hw3 hk4 hk8 hk9
  obtain ⟨r0, hr0⟩ : ∃ r0, r0 = (RS.byte ⟨s, 0, 0, 0⟩).1 := ⟨_, rfl⟩
  rw [← hr0] at HOW0
  have HR0 := Lib.hid hr0
  clear hr0
  go_cut [] (fun wx => OW w wx k4 k8 k9 a vs (.slice none 0 0) (r0.form (okOp op)) ⟨0, op, 0, 0, 0, 0, [], []⟩)
  case first => as_aux_lemma =>
    have g1 := HOW0.out.g1
    have d1 : ((s.length : Int) == 0) = false := by simp; intro h; rw [h] at hs0; simp at hs0
    have HF := Lib.hid (show okOp op = (decide (1 ≤ op) && decide (op ≤ 15)) from rfl)
    clear hs0
    · by_cases h1 : 1 ≤ op
      · have d2 : decide (1 ≤ op) = true := by simp [h1]
        by_cases h2 : op ≤ 15
        · have d3 : decide (op ≤ 15) = true := by simp [h2]
          go_wp2_with fail
          refine (form_any k8 a vs r0 true _ HOW0.out.c8 HOW0.out.rd).mono ?_
          rintro e w4 ⟨rfl, hp⟩
          have HN := Lib.hid (HOW0.out.read hp)
          clear hp
          go_wp2_with fail
          go_meet
          rw [HF.out, d2, d3]; exact HN.out
        · have d3 : decide (op ≤ 15) = false := by simp [h2]
          go_wp2_with fail
          refine (form_any k8 a vs r0 false _ HOW0.out.c8 HOW0.out.rd).mono ?_
          rintro e w4 ⟨rfl, hp⟩
          have HN := Lib.hid (HOW0.out.read hp)
          clear hp
          go_wp2_with fail
          go_meet
          rw [HF.out, d2, d3]; exact HN.out
      · have d2 : decide (1 ≤ op) = false := by simp [h1]
        go_wp2_with fail
        refine (form_any k8 a vs r0 false _ HOW0.out.c8 HOW0.out.rd).mono ?_
        rintro e w4 ⟨rfl, hp⟩
        have HN := Lib.hid (HOW0.out.read hp)
        clear hp
        go_wp2_with fail
        go_meet
        rw [HF.out, d2]; exact HN.out
  case rest =>
    have HOW1 := Lib.hid hcut
    clear hcut HOW0
    have g1 := HOW1.out.g1
    obtain ⟨r1, hr1⟩ : ∃ r1, r1 = r0.form (okOp op) := ⟨_, rfl⟩
    rw [← hr1] at HOW1
    have HR1 := Lib.hid hr1
    clear hr1
    go_wp2_with fail
    refine (asks_any op _).mono ?_
    rintro e w4 ⟨rfl, rfl⟩
    obtain ⟨bA, hbA⟩ : ∃ b, b = asksA op := ⟨_, rfl⟩
    obtain ⟨bB, hbB⟩ : ∃ b, b = asksB op := ⟨_, rfl⟩
    obtain ⟨nN, hnN⟩ : ∃ b, b = asksN op := ⟨_, rfl⟩
    rw [← hbA, ← hbB, ← hnN]
    have HBA := Lib.hid hbA
    have HBB := Lib.hid hbB
    have HNN := Lib.hid hnN
    clear hbA hbB hnN
    go_upto_block 0 with fail
    go_cut [] (fun wx => OW w wx k4 k8 k9 a vs (.slice none 0 0) (cBody op r1).1 ⟨0, op, 0, 0, (cBody op r1).2.1, (cBody op r1).2.2.1, (cBody op r1).2.2.2, []⟩)
    case first => as_aux_lemma =>
      have g8 := HOW1.out.g8
      by_cases h1 : op = 1
      · have HE := Lib.hid (show cBody op r1 = (r1.signed.1.signed.1.form (fits r1.signed.2 && fits r1.signed.1.signed.2), r1.signed.2, r1.signed.1.signed.2, []) by simp [cBody, h1])
        have d1 : (op == 1) = true := by simp [h1]
        clear h1
        go_wp2_with fail
        refine (rsigned_any a vs r1 _ HOW1.out.rd).mono ?_
        rintro e w5 ⟨rfl, hp⟩
        have HN := Lib.hid (HOW1.out.read hp)
        have g8 := HN.out.g8
        clear hp
        go_wp2_with fail
        refine (rsigned_any a vs r1.signed.1 _ HN.out.rd).mono ?_
        rintro e w6 ⟨rfl, hp⟩
        have HN := Lib.hid (HN.out.read hp)
        have g8 := HN.out.g8
        have z4 := HN.out.g4
        have f4 := HN.out.fz 4
        clear hp
        go_wp2_with fail
        have HN1 := Lib.hid (HN.out.field 4 (.complex .f64 (fl r1.signed.2) (fl r1.signed.1.signed.2)) ⟨0, op, 0, 0, r1.signed.2, r1.signed.1.signed.2, [], []⟩ rfl rfl)
        refine (right_any r1.signed.2 r1.signed.1.signed.2 (signed_range _) (signed_range _) _).mono ?_
        rintro e w7 ⟨rfl, rfl⟩
        go_wp2_with fail
        refine (form_any k8 a vs r1.signed.1.signed.1 _ _ HN1.out.c8 HN1.out.rd).mono ?_
        rintro e w8 ⟨rfl, hp⟩
        have HN2 := Lib.hid (HN1.out.read hp)
        clear hp
        go_wp2_with fail
        go_meet
        rw [HE.out]; exact HN2.out
      · have d1 : (op == 1) = false := by simp [h1]
        by_cases h2 : op = 2
        · have HE := Lib.hid (show cBody op r1 = ((r1.text 200).1, 0, 0, (r1.text 200).2) by simp [cBody, h2])
          have d2 : (op == 2) = true := by simp [h2]
          have z5 := HOW1.out.g5
          clear h1 h2
          go_wp2_with fail
          refine (rtext_any a vs r1 200 _ HOW1.out.rd (by omega)).mono ?_
          rintro e w5 ⟨rfl, hp⟩
          have HN := Lib.hid (HOW1.out.read hp)
          have z5 := HN.out.g5
          have f5 := HN.out.fz 5
          clear hp
          go_wp2_with fail
          go_meet
          rw [HE.out]
          exact HN.out.field 5 (.string (strOf (r1.text 200).2)) ⟨0, op, 0, 0, 0, 0, (r1.text 200).2, []⟩ rfl rfl
        · have HE := Lib.hid (show cBody op r1 = (r1, 0, 0, []) by simp [cBody, h1, h2])
          have d2 : (op == 2) = false := by simp [h2]
          clear h1 h2
          go_wp2_with fail
          go_meet
          rw [HE.out]
          exact HOW1.out
    case rest =>
      have HOW2 := Lib.hid hcut
      clear hcut HOW1
      obtain ⟨r2, hr2⟩ : ∃ r2, r2 = (cBody op r1).1 := ⟨_, rfl⟩
      obtain ⟨x, hx⟩ : ∃ x, x = (cBody op r1).2.1 := ⟨_, rfl⟩
      obtain ⟨y, hy⟩ : ∃ y, y = (cBody op r1).2.2.1 := ⟨_, rfl⟩
      obtain ⟨tx, htx⟩ : ∃ tx, tx = (cBody op r1).2.2.2 := ⟨_, rfl⟩
      rw [← hr2, ← hx, ← hy, ← htx] at HOW2
      have HCB := Lib.hid (show cBody op r1 = (r2, x, y, tx) by rw [hr2, hx, hy, htx])
      clear hr2 hx hy htx
      go_upto_if 84 with fail
      go_cut [] (fun wx => OW w wx k4 k8 k9 a vs (.slice none 0 0) (stA op r2).1 ⟨0, op, (stA op r2).2, 0, x, y, tx, []⟩)
      case first => as_aux_lemma =>
        cases bA
        · have HE := Lib.hid (show stA op r2 = (r2, 0) by simp [stA, ← HBA.out])
          go_wp2_with fail
          go_meet
          rw [HE.out]; exact HOW2.out
        · have HE := Lib.hid (show stA op r2 = r2.byte by simp [stA, ← HBA.out])
          go_wp2_with fail
          refine (byte_any k8 a vs r2 _ HOW2.out.c8 HOW2.out.rd).mono ?_
          rintro e w5 ⟨rfl, hp⟩
          have HN := Lib.hid (HOW2.out.read hp)
          have z2 := HN.out.g2
          have f2 := HN.out.fz 2
          clear hp
          go_wp2_with fail
          go_meet
          rw [HE.out]
          exact HN.out.field 2 (.int .i64 r2.byte.2) ⟨0, op, r2.byte.2, 0, x, y, tx, []⟩ rfl rfl
      case rest =>
        have HOW3 := Lib.hid hcut
        clear hcut HOW2
        obtain ⟨r3, hr3⟩ : ∃ r3, r3 = (stA op r2).1 := ⟨_, rfl⟩
        obtain ⟨A, hA⟩ : ∃ A, A = (stA op r2).2 := ⟨_, rfl⟩
        have hAr : 0 ≤ A ∧ A < 256 := by
          rw [hA]; unfold stA; split
          · exact byte_range r2
          · simp
        rw [← hr3, ← hA] at HOW3
        have HSA := Lib.hid (show stA op r2 = (r3, A) by rw [hr3, hA])
        clear hr3 hA
        go_upto_if 89 with fail
        go_cut [12] (fun s wx => s = .int .i64 (stN op A r3).2 ∧ OW w wx k4 k8 k9 a vs (.slice none 0 0) (stN op A r3).1 ⟨0, op, A, 0, x, y, tx, []⟩)
        case first => as_aux_lemma =>
          by_cases hn : nN < 0
          · have HE := Lib.hid (show stN op A r3 = (r3.form (decide (1 ≤ A) && decide (A ≤ 6)), min A 6) by rw [HNN.out] at hn; simp [stN, hn])
            have g2 := HOW3.out.g2
            by_cases h1 : 1 ≤ A
            · have d1 : decide (1 ≤ A) = true := by simp [h1]
              by_cases h2 : A ≤ 6
              · have d2 : decide (A ≤ 6) = true := by simp [h2]
                have HMI := Lib.hid (show min A 6 = A by omega)
                go_wp2_with fail
                refine (form_any k8 a vs r3 true _ HOW3.out.c8 HOW3.out.rd).mono ?_
                rintro e w5 ⟨rfl, hp⟩
                have HN := Lib.hid (HOW3.out.read hp)
                have g2 := HN.out.g2
                clear hp
                go_wp2_with fail
                go_meet
                rw [HE.out, d1, d2]; exact ⟨by rw [HMI.out], HN.out⟩
              · have d2 : decide (A ≤ 6) = false := by simp [h2]
                have HMI := Lib.hid (show min A 6 = 6 by omega)
                go_wp2_with fail
                refine (form_any k8 a vs r3 false _ HOW3.out.c8 HOW3.out.rd).mono ?_
                rintro e w5 ⟨rfl, hp⟩
                have HN := Lib.hid (HOW3.out.read hp)
                have g2 := HN.out.g2
                clear hp
                go_wp2_with fail
                go_meet
                rw [HE.out, d1, d2]; exact ⟨by rw [HMI.out], HN.out⟩
            · have d1 : decide (1 ≤ A) = false := by simp [h1]
              have HMI := Lib.hid (show min A 6 = A by omega)
              go_wp2_with fail
              refine (form_any k8 a vs r3 false _ HOW3.out.c8 HOW3.out.rd).mono ?_
              rintro e w5 ⟨rfl, hp⟩
              have HN := Lib.hid (HOW3.out.read hp)
              have g2 := HN.out.g2
              clear hp
              go_wp2_with fail
              go_meet
              rw [HE.out, d1]; exact ⟨by rw [HMI.out], HN.out⟩
          · have HE := Lib.hid (show stN op A r3 = (r3, nN) by rw [HNN.out] at hn ⊢; simp [stN, hn])
            go_wp2_with fail
            go_meet
            rw [HE.out]; exact ⟨rfl, HOW3.out⟩
        case rest =>
          obtain ⟨hs12, hcut⟩ := hcut
          have HOW4 := Lib.hid hcut
          have hMr := stN_range op A r3 hAr.1
          obtain ⟨r4, hr4⟩ : ∃ r4, r4 = (stN op A r3).1 := ⟨_, rfl⟩
          obtain ⟨M, hM⟩ : ∃ M, M = (stN op A r3).2 := ⟨_, rfl⟩
          rw [← hr4] at HOW4
          rw [← hM] at hs12 hMr
          have HSN := Lib.hid (show stN op A r3 = (r4, M) by rw [hr4, hM])
          subst hs12
          clear hcut HOW3 hr4 hM
          go_upto_if 103 with fail
          go_cut [] (fun wx => OW w wx k4 k8 k9 a vs (.slice none 0 0) (stB op r4).1 ⟨0, op, A, (stB op r4).2, x, y, tx, []⟩)
          case first => as_aux_lemma =>
            cases bB
            · have HE := Lib.hid (show stB op r4 = (r4, 0) by simp [stB, ← HBB.out])
              go_wp2_with fail
              go_meet
              rw [HE.out]; exact HOW4.out
            · have HE := Lib.hid (show stB op r4 = r4.byte by simp [stB, ← HBB.out])
              go_wp2_with fail
              refine (byte_any k8 a vs r4 _ HOW4.out.c8 HOW4.out.rd).mono ?_
              rintro e w5 ⟨rfl, hp⟩
              have HN := Lib.hid (HOW4.out.read hp)
              have z3 := HN.out.g3
              have f3 := HN.out.fz 3
              clear hp
              go_wp2_with fail
              go_meet
              rw [HE.out]
              exact HN.out.field 3 (.int .i64 r4.byte.2) ⟨0, op, A, r4.byte.2, x, y, tx, []⟩ rfl rfl
          case rest =>
            have HOW5 := Lib.hid hcut
            clear hcut HOW4
            obtain ⟨r5, hr5⟩ : ∃ r5, r5 = (stB op r4).1 := ⟨_, rfl⟩
            obtain ⟨B, hB⟩ : ∃ B, B = (stB op r4).2 := ⟨_, rfl⟩
            rw [← hr5, ← hB] at HOW5
            have HSB := Lib.hid (show stB op r4 = (r5, B) by rw [hr5, hB])
            clear hr5 hB
            have g1 := HOW5.out.g1
            go_wp2_with fail
            refine (takes_any op _).mono ?_
            rintro e w6 ⟨rfl, rfl⟩
            obtain ⟨bT, hbT⟩ : ∃ b, b = takesB op := ⟨_, rfl⟩
            obtain ⟨nT, hnT⟩ : ∃ b, b = takesN op := ⟨_, rfl⟩
            rw [← hbT, ← hnT]
            have HBT := Lib.hid hbT
            clear hbT hnT g1
            go_upto_if 113 with fail
            go_cut [15] (fun s wx => s = .int .i64 (stR op r5).2 ∧ OW w wx k4 k8 k9 a vs (.slice none 0 0) (stR op r5).1 ⟨0, op, A, B, x, y, tx, []⟩)
            case first => as_aux_lemma =>
              cases bT
              · have HE := Lib.hid (show stR op r5 = (r5, 0) by simp [stR, ← HBT.out])
                go_wp2_with fail
                go_meet
                rw [HE.out]; exact ⟨rfl, HOW5.out⟩
              · have HE := Lib.hid (show stR op r5 = (r5.word.1.form (decide (r5.word.2 = 0)), r5.word.2) by simp [stR, ← HBT.out])
                go_wp2_with fail
                refine (word_any k8 a vs r5 _ HOW5.out.c8 HOW5.out.rd).mono ?_
                rintro e w7 ⟨rfl, hp⟩
                have HN := Lib.hid (HOW5.out.read hp)
                clear hp
                by_cases h0 : r5.word.2 = 0
                · have d0 : (r5.word.2 == 0) = true := by simp [h0]
                  have HD := Lib.hid (show decide (r5.word.2 = 0) = true by simp [h0])
                  clear h0
                  go_wp2_with fail
                  refine (form_any k8 a vs r5.word.1 true _ HN.out.c8 HN.out.rd).mono ?_
                  rintro e w8 ⟨rfl, hp⟩
                  have HN2 := Lib.hid (HN.out.read hp)
                  clear hp
                  go_wp2_with fail
                  go_meet
                  rw [HE.out, HD.out]; exact ⟨rfl, HN2.out⟩
                · have d0 : (r5.word.2 == 0) = false := by simp [h0]
                  have HD := Lib.hid (show decide (r5.word.2 = 0) = false by simp [h0])
                  clear h0
                  go_wp2_with fail
                  refine (form_any k8 a vs r5.word.1 false _ HN.out.c8 HN.out.rd).mono ?_
                  rintro e w8 ⟨rfl, hp⟩
                  have HN2 := Lib.hid (HN.out.read hp)
                  clear hp
                  go_wp2_with fail
                  go_meet
                  rw [HE.out, HD.out]; exact ⟨rfl, HN2.out⟩
            case rest =>
              obtain ⟨hs15, hcut⟩ := hcut
              have HOW6 := Lib.hid hcut
              have hRr : 0 ≤ (stR op r5).2 ∧ (stR op r5).2 < 65536 := by
                unfold stR; split
                · exact word_range r5
                · simp
              obtain ⟨r6, hr6⟩ : ∃ r6, r6 = (stR op r5).1 := ⟨_, rfl⟩
              obtain ⟨ref, href⟩ : ∃ ref, ref = (stR op r5).2 := ⟨_, rfl⟩
              rw [← hr6] at HOW6
              rw [← href] at hs15 hRr
              have HSR := Lib.hid (show stR op r5 = (r6, ref) by rw [hr6, href])
              subst hs15
              clear hcut HOW5 hr6 href
              obtain ⟨m, rfl⟩ := Int.eq_ofNat_of_zero_le hMr.1
              go_upto_block 1 with fail
              go_cut [] (fun wx => ∃ vt, OW w wx k4 k8 k9 a vs vt (words r6 m).1 ⟨0, op, A, B, x, y, tx, (words r6 m).2⟩)
              case first => as_aux_lemma =>
                go_wp2_with fail
                go_loopw [125] (fun j wr => ∃ (q : Nat) (vt : Value), j = .int .i64 q ∧ q ≤ m ∧ OW w wr k4 k8 k9 a vs vt (words r6 q).1 ⟨0, op, A, B, x, y, tx, (words r6 q).2⟩) (fun j _ => m - (intOf j).toNat)
                case atStart => exact ⟨0, _, rfl, by omega, HOW6.out⟩
                case round =>
                  obtain ⟨q, vt, rfl, hq, ho⟩ := hrel
                  by_cases hlt : q < m
                  · obtain ⟨av, cv, rfl, hcv, hcv2, _⟩ := own_form ho.ow
                    have HOWr := Lib.hid ho
                    rw [show (IV.tos ⟨0, op, A, B, x, y, tx, (words r6 q).2⟩).length = q from words_len r6 q] at *
                    have HOWd := Lib.hid (HOWr.out.keep ((Upd.refl (fun _ => False) wr).drew))
                    have z6 := HOWr.out.g6
                    have HOQ := Lib.hid HOWr.out.ow
                    have f1 : (q : Int) < (m : Int) := by omega
                    have f4 : q + 1 ≤ m := by omega
                    have f5 : q ≤ 6 := by omega
                    obtain ⟨i3, hi3, y0, y1, y2⟩ := info_parts Try.info3
                    clear ho hlt hq
                    go_upto_region 27 with fail
                    refine wp_region_noPanic ?_
                    refine wp_region_held (S := fun _ => True) (by kernel_rfl) ?_
                    refine wpAnyH_take (i := 0) (v := .pointer (some ⟨k9, 6, none⟩)) (List.getElem?_toArray.trans rfl) (by kernel_rfl) (by kernel_rfl) (by kernel_rfl) (fun _ _ _ h => h) (Or.inl ⟨by rfl, fun w _ => by go_simp⟩) trivial ?_
                    try simp only [Act.put, List.setIfInBounds_toArray, List.set_cons_zero, List.set_cons_succ]
                    refine wpAnyH_take (i := 2) (v := .pointer (some ⟨k8, 0, none⟩)) (List.getElem?_toArray.trans rfl) (by kernel_rfl) (by kernel_rfl) (by kernel_rfl) (fun _ _ _ h => h) (Or.inl ⟨by rfl, fun w _ => by rfl⟩) trivial ?_
                    try simp only [Act.put, List.setIfInBounds_toArray, List.set_cons_zero, List.set_cons_succ]
                    refine wpAnyH_ready (rs := [1, 3]) (by kernel_rfl) (by simp) (AllReadyH.cons (List.getElem?_toArray.trans rfl) (fun K hK => ?_) (AllReadyH.cons (List.getElem?_toArray.trans rfl) (fun K hK => ?_) AllReadyH.nil))
                    · go_simp
                      refine hK.out _ _ trivial (fun _ => ?_)
                      try simp only [Act.put, List.setIfInBounds_toArray, List.set_cons_zero, List.set_cons_succ]
                      refine wpAnyH_ready (rs := [3]) (by kernel_rfl) (by simp) (AllReadyH.cons (List.getElem?_toArray.trans rfl) (fun K hK => ?_) AllReadyH.nil)
                      go_simp
                      refine (word_any k8 a vs (words r6 q).1 _ HOWd.out.c8 HOWd.out.rd).mono ?_
                      rintro e w7 ⟨rfl, hp⟩
                      have HN7 := Lib.hid (HOWd.out.read hp)
                      have z6 := HN7.out.g6
                      have z6a := ((Upd.refl (fun _ => False) w7).alloc (.cells #[.int .i64 (words r6 q).1.word.2] 3)).cell_some z6 (fun h => h)
                      have HO7 := Lib.hid (show (w7.alloc (.cells #[.int .i64 (words r6 q).1.word.2] 3)).ownsRow w.heap.size 3 1 (.slice av q cv) q (intsV (words r6 q).2) by have h := ownsRow_upd HN7.out.ow ((Upd.refl (fun _ => False) w7).alloc (.cells #[.int .i64 (words r6 q).1.word.2] 3)) (fun _ _ h => h); change World.ownsRow _ _ _ _ _ (words r6 q).2.length _ at h; rw [words_len] at h; exact h)
                      have HSR7 := Lib.hid (ints_src Try.underlying81 (w := w7) (words r6 q).1.word.2)
                      clear hp
                      refine hK.out _ _ trivial (fun _ => ?_)
                      try simp only [Act.put, List.setIfInBounds_toArray, List.set_cons_zero, List.set_cons_succ]
                      refine wpAnyH_ready (rs := [4]) (by kernel_rfl) (by simp) (AllReadyH.cons (List.getElem?_toArray.trans rfl) (fun K hK => ?_) AllReadyH.nil)
                      go_simp
                      refine hK.out _ _ trivial (fun _ => ?_)
                      try simp only [Act.put, List.setIfInBounds_toArray, List.set_cons_zero, List.set_cons_succ]
                      refine wpAnyH_ready (rs := [5]) (by kernel_rfl) (by simp) (AllReadyH.cons (List.getElem?_toArray.trans rfl) (fun K hK => ?_) AllReadyH.nil)
                      refine step_append_src_own _ (by rfl) _ _ 81 81 (by rfl) w.heap.size 3 i3 _ 1 8 Try.underlying81 hi3 y0 y1 y2 rfl (.slice av q cv) q (intsV (words r6 q).2) (by rfl) HO7.out _ 1 [.int .i64 (words r6 q).1.word.2] (by rfl) HSR7.out (by unfold maxLen; omega) (by omega) (by have := HN7.out.upd.size; simp; omega) ?_
                      intro v' w8 p1 p2 p3 p4
                      have p1' : w8.ownsRow w.heap.size 3 1 v' ((words r6 q).2.length + 1) (intsV (words r6 q).2 ++ [.int .i64 (words r6 q).1.word.2]) := by rw [words_len]; exact p1
                      have HN8 := Lib.hid (HN7.out.push p2 p1' p3)
                      obtain ⟨av', cv', rfl, _, _, _⟩ := own_form p1
                      have hu8 := ((Upd.refl (fun j => (Value.slice av q cv).ownBlock = some j) w7).alloc (.cells #[.int .i64 (words r6 q).1.word.2] 3)).grown p2 (fun j h _ => h)
                      have z8 := hu8.cell_some z6 (fun e => by have := HN7.out.ht k9 e; omega)
                      have f8 := Row.free (HN7.out.c9.upd hu8 (fun e => by have := HN7.out.ht k9 e; omega)) 6
                      clear p1 p1' p2 p3 p4 hu8
                      refine hK.out _ _ trivial (fun _ => ?_)
                      try simp only [Act.put, List.setIfInBounds_toArray, List.set_cons_zero, List.set_cons_succ]
                      refine wpAnyH_take (i := 6) (v := .pointer (some ⟨k9, 6, none⟩)) (List.getElem?_toArray.trans rfl) (by kernel_rfl) (by kernel_rfl) (by kernel_rfl) (fun _ _ _ h => h) (Or.inl ⟨by rfl, fun w _ => by go_simp⟩) trivial ?_
                      try simp only [Act.put, List.setIfInBounds_toArray, List.set_cons_zero, List.set_cons_succ]
                      refine wpAnyH_ready (rs := [7]) (by kernel_rfl) (by simp) (AllReadyH.cons (List.getElem?_toArray.trans rfl) (fun K hK => ?_) AllReadyH.nil)
                      go_simp
                      refine hK.out _ _ trivial (fun _ => ?_)
                      try simp only [Act.put, List.setIfInBounds_toArray, List.set_cons_zero, List.set_cons_succ]
                      refine wpAnyH_done (by kernel_rfl) ?_ _
                      refine NoPanic.normal ?_
                      go_wp2_with fail
                      go_roundw
                      case rel => exact ⟨q + 1, _, by go_num, by omega, HN8.out⟩
                      case measure => (try simp [intOf]) <;> (try omega)
                    · go_simp
                      refine (word_any k8 a vs (words r6 q).1 _ HOWd.out.c8 HOWd.out.rd).mono ?_
                      rintro e w7 ⟨rfl, hp⟩
                      have HN7 := Lib.hid (HOWd.out.read hp)
                      have z6 := HN7.out.g6
                      have z6a := ((Upd.refl (fun _ => False) w7).alloc (.cells #[.int .i64 (words r6 q).1.word.2] 3)).cell_some z6 (fun h => h)
                      have HO7 := Lib.hid (show (w7.alloc (.cells #[.int .i64 (words r6 q).1.word.2] 3)).ownsRow w.heap.size 3 1 (.slice av q cv) q (intsV (words r6 q).2) by have h := ownsRow_upd HN7.out.ow ((Upd.refl (fun _ => False) w7).alloc (.cells #[.int .i64 (words r6 q).1.word.2] 3)) (fun _ _ h => h); change World.ownsRow _ _ _ _ _ (words r6 q).2.length _ at h; rw [words_len] at h; exact h)
                      have HSR7 := Lib.hid (ints_src Try.underlying81 (w := w7) (words r6 q).1.word.2)
                      clear hp
                      refine hK.out _ _ trivial (fun _ => ?_)
                      try simp only [Act.put, List.setIfInBounds_toArray, List.set_cons_zero, List.set_cons_succ]
                      refine wpAnyH_ready (rs := [1, 4]) (by kernel_rfl) (by simp) (AllReadyH.cons (List.getElem?_toArray.trans rfl) (fun K hK => ?_) (AllReadyH.cons (List.getElem?_toArray.trans rfl) (fun K hK => ?_) AllReadyH.nil))
                      · go_simp
                        refine hK.out _ _ trivial (fun _ => ?_)
                        try simp only [Act.put, List.setIfInBounds_toArray, List.set_cons_zero, List.set_cons_succ]
                        refine wpAnyH_ready (rs := [4]) (by kernel_rfl) (by simp) (AllReadyH.cons (List.getElem?_toArray.trans rfl) (fun K hK => ?_) AllReadyH.nil)
                        go_simp
                        refine hK.out _ _ trivial (fun _ => ?_)
                        try simp only [Act.put, List.setIfInBounds_toArray, List.set_cons_zero, List.set_cons_succ]
                        refine wpAnyH_ready (rs := [5]) (by kernel_rfl) (by simp) (AllReadyH.cons (List.getElem?_toArray.trans rfl) (fun K hK => ?_) AllReadyH.nil)
                        refine step_append_src_own _ (by rfl) _ _ 81 81 (by rfl) w.heap.size 3 i3 _ 1 8 Try.underlying81 hi3 y0 y1 y2 rfl (.slice av q cv) q (intsV (words r6 q).2) (by rfl) HO7.out _ 1 [.int .i64 (words r6 q).1.word.2] (by rfl) HSR7.out (by unfold maxLen; omega) (by omega) (by have := HN7.out.upd.size; simp; omega) ?_
                        intro v' w8 p1 p2 p3 p4
                        have p1' : w8.ownsRow w.heap.size 3 1 v' ((words r6 q).2.length + 1) (intsV (words r6 q).2 ++ [.int .i64 (words r6 q).1.word.2]) := by rw [words_len]; exact p1
                        have HN8 := Lib.hid (HN7.out.push p2 p1' p3)
                        obtain ⟨av', cv', rfl, _, _, _⟩ := own_form p1
                        have hu8 := ((Upd.refl (fun j => (Value.slice av q cv).ownBlock = some j) w7).alloc (.cells #[.int .i64 (words r6 q).1.word.2] 3)).grown p2 (fun j h _ => h)
                        have z8 := hu8.cell_some z6 (fun e => by have := HN7.out.ht k9 e; omega)
                        have f8 := Row.free (HN7.out.c9.upd hu8 (fun e => by have := HN7.out.ht k9 e; omega)) 6
                        clear p1 p1' p2 p3 p4 hu8
                        refine hK.out _ _ trivial (fun _ => ?_)
                        try simp only [Act.put, List.setIfInBounds_toArray, List.set_cons_zero, List.set_cons_succ]
                        refine wpAnyH_take (i := 6) (v := .pointer (some ⟨k9, 6, none⟩)) (List.getElem?_toArray.trans rfl) (by kernel_rfl) (by kernel_rfl) (by kernel_rfl) (fun _ _ _ h => h) (Or.inl ⟨by rfl, fun w _ => by go_simp⟩) trivial ?_
                        try simp only [Act.put, List.setIfInBounds_toArray, List.set_cons_zero, List.set_cons_succ]
                        refine wpAnyH_ready (rs := [7]) (by kernel_rfl) (by simp) (AllReadyH.cons (List.getElem?_toArray.trans rfl) (fun K hK => ?_) AllReadyH.nil)
                        go_simp
                        refine hK.out _ _ trivial (fun _ => ?_)
                        try simp only [Act.put, List.setIfInBounds_toArray, List.set_cons_zero, List.set_cons_succ]
                        refine wpAnyH_done (by kernel_rfl) ?_ _
                        refine NoPanic.normal ?_
                        go_wp2_with fail
                        go_roundw
                        case rel => exact ⟨q + 1, _, by go_num, by omega, HN8.out⟩
                        case measure => (try simp [intOf]) <;> (try omega)
                      · go_simp
                        refine hK.out _ _ trivial (fun _ => ?_)
                        try simp only [Act.put, List.setIfInBounds_toArray, List.set_cons_zero, List.set_cons_succ]
                        refine wpAnyH_ready (rs := [1]) (by kernel_rfl) (by simp) (AllReadyH.cons (List.getElem?_toArray.trans rfl) (fun K hK => ?_) AllReadyH.nil)
                        go_simp
                        refine hK.out _ _ trivial (fun _ => ?_)
                        try simp only [Act.put, List.setIfInBounds_toArray, List.set_cons_zero, List.set_cons_succ]
                        refine wpAnyH_ready (rs := [5]) (by kernel_rfl) (by simp) (AllReadyH.cons (List.getElem?_toArray.trans rfl) (fun K hK => ?_) AllReadyH.nil)
                        refine step_append_src_own _ (by rfl) _ _ 81 81 (by rfl) w.heap.size 3 i3 _ 1 8 Try.underlying81 hi3 y0 y1 y2 rfl (.slice av q cv) q (intsV (words r6 q).2) (by rfl) HO7.out _ 1 [.int .i64 (words r6 q).1.word.2] (by rfl) HSR7.out (by unfold maxLen; omega) (by omega) (by have := HN7.out.upd.size; simp; omega) ?_
                        intro v' w8 p1 p2 p3 p4
                        have p1' : w8.ownsRow w.heap.size 3 1 v' ((words r6 q).2.length + 1) (intsV (words r6 q).2 ++ [.int .i64 (words r6 q).1.word.2]) := by rw [words_len]; exact p1
                        have HN8 := Lib.hid (HN7.out.push p2 p1' p3)
                        obtain ⟨av', cv', rfl, _, _, _⟩ := own_form p1
                        have hu8 := ((Upd.refl (fun j => (Value.slice av q cv).ownBlock = some j) w7).alloc (.cells #[.int .i64 (words r6 q).1.word.2] 3)).grown p2 (fun j h _ => h)
                        have z8 := hu8.cell_some z6 (fun e => by have := HN7.out.ht k9 e; omega)
                        have f8 := Row.free (HN7.out.c9.upd hu8 (fun e => by have := HN7.out.ht k9 e; omega)) 6
                        clear p1 p1' p2 p3 p4 hu8
                        refine hK.out _ _ trivial (fun _ => ?_)
                        try simp only [Act.put, List.setIfInBounds_toArray, List.set_cons_zero, List.set_cons_succ]
                        refine wpAnyH_take (i := 6) (v := .pointer (some ⟨k9, 6, none⟩)) (List.getElem?_toArray.trans rfl) (by kernel_rfl) (by kernel_rfl) (by kernel_rfl) (fun _ _ _ h => h) (Or.inl ⟨by rfl, fun w _ => by go_simp⟩) trivial ?_
                        try simp only [Act.put, List.setIfInBounds_toArray, List.set_cons_zero, List.set_cons_succ]
                        refine wpAnyH_ready (rs := [7]) (by kernel_rfl) (by simp) (AllReadyH.cons (List.getElem?_toArray.trans rfl) (fun K hK => ?_) AllReadyH.nil)
                        go_simp
                        refine hK.out _ _ trivial (fun _ => ?_)
                        try simp only [Act.put, List.setIfInBounds_toArray, List.set_cons_zero, List.set_cons_succ]
                        refine wpAnyH_done (by kernel_rfl) ?_ _
                        refine NoPanic.normal ?_
                        go_wp2_with fail
                        go_roundw
                        case rel => exact ⟨q + 1, _, by go_num, by omega, HN8.out⟩
                        case measure => (try simp [intOf]) <;> (try omega)
                  · have hq' : q = m := by omega
                    subst hq'
                    have f1 : ¬ ((q : Int) < (q : Int)) := by omega
                    have HE := Lib.hid ho
                    clear hlt hq ho
                    go_wp2_with fail
                    go_meet
                    exact ⟨_, HE.out⟩
              case rest =>
                obtain ⟨vt, how⟩ := hcut
                have HOW7 := Lib.hid how
                have hrl : (words r6 m).1.l = s := by
                  have e0 : r0.l = s := by rw [HR0.out]; exact byte_l _
                  have e1 : r1.l = s := by rw [HR1.out, form_l, e0]
                  have e2 : r2.l = s := by have := body_l op r1; rw [HCB.out, e1] at this; exact this
                  have e3 : r3.l = s := by have := stA_l op r2; rw [HSA.out, e2] at this; exact this
                  have e4 : r4.l = s := by have := stN_l op A r3; rw [HSN.out, e3] at this; exact this
                  have e5 : r5.l = s := by have := stB_l op r4; rw [HSB.out, e4] at this; exact this
                  have e6 : r6.l = s := by have := stR_l op r5; rw [HSR.out, e5] at this; exact this
                  rw [words_l, e6]
                have hlt : 0 ≤ (words r6 m).1.left ∧ (words r6 m).1.left ≤ s.length := by
                  have hle := how.rd.le
                  rw [hrl] at hle
                  unfold RS.left
                  rw [hrl]
                  split <;> omega
                have HONE := Lib.hid (show oneC s = ((words r6 m).1, ⟨0, op, A, B, x, y, tx, (words r6 m).2⟩, ref) by
                  unfold oneC
                  simp only [← HOP.out, ← HR0.out, ← HR1.out, HCB.out, HSA.out, HSN.out, HSB.out, HSR.out, Int.toNat_natCast, Int.ofNat_eq_natCast])
                have HTR := Lib.hid (words_range r6 m)
                have HTL := Lib.hid (words_len r6 m)
                generalize (words r6 m).1 = rF at *
                generalize (words r6 m).2 = tos at *
                have g8 := HOW7.out.g8
                clear how hrl HOP HR0 HR1 HCB HSA HSN HSB HSR HOW6
                go_wp2_with fail
                refine (rleft_any a vs rF _ HOW7.out.rd).mono ?_
                rintro e w8 ⟨rfl, n8, rfl⟩
                have HOW8 := Lib.hid (HOW7.out.drewN n8)
                obtain ⟨wd, hwd⟩ : ∃ wd, wd = wc.drewN n8 := ⟨_, rfl⟩
                rw [← hwd] at HOW8 ⊢
                clear hwd
                have g8 := HOW8.out.g8
                have HSZ := Lib.hid (show sizeC s = (s.length : Int) - rF.left by unfold sizeC; rw [HONE.out])
                obtain ⟨sz, hsz⟩ : ∃ sz, sz = (s.length : Int) - rF.left := ⟨_, rfl⟩
                have hszr : 0 ≤ sz ∧ sz ≤ 2048 := by omega
                have hwr : IntKind.i64.wrap ((s.length : Int) - rF.left) = sz := by rw [← hsz]; exact IntWalk.i64_in _ (by omega)
                rw [← hsz] at HSZ
                clear hsz
                go_wp2_with fail
                refine (rend_any a vs rF _ HOW8.out.rd).mono ?_
                rintro e w9 ⟨rfl, n9, rfl⟩
                have HOW9 := Lib.hid (HOW8.out.drewN n9)
                obtain ⟨we, hwe⟩ : ∃ we, we = wd.drewN n9 := ⟨_, rfl⟩
                rw [← hwe] at HOW9 ⊢
                clear hwe HOW8 HOW7 g8 hwr
                have HF1 := Lib.hid (show (oneC s).1.fin.1 = rF.fin.1 by rw [HONE.out])
                obtain ⟨f1, f2, hf⟩ : ∃ f1 f2, rF.fin = (f1, f2) := ⟨_, _, rfl⟩
                rw [hf] at HF1 ⊢
                have c0 := HOW9.out.c4.get (i := 0) rfl
                have c1 := HOW9.out.c4.get (i := 1) rfl
                have c2 := HOW9.out.c4.get (i := 2) rfl
                have c3 := HOW9.out.c4.get (i := 3) rfl
                have c4 := HOW9.out.c4.get (i := 4) rfl
                have c5 := HOW9.out.c4.get (i := 5) rfl
                have c6 := HOW9.out.c4.get (i := 6) rfl
                have z0 := HOW9.out.c4.free 0
                have z1 := HOW9.out.c4.free 1
                have z2 := HOW9.out.c4.free 2
                have z3 := HOW9.out.c4.free 3
                have z4 := HOW9.out.c4.free 4
                have z5 := HOW9.out.c4.free 5
                have z6 := HOW9.out.c4.free 6
                have HK4 := Lib.hid (show ∀ cs : List Value, ∀ u0 u1 u2 u3 u4 u5 u6, cs = [u0, u1, u2, u3, u4, u5, u6] → Row (((((((we.setCell ⟨k4, 0, none⟩ u0).setCell ⟨k4, 1, none⟩ u1).setCell ⟨k4, 2, none⟩ u2).setCell ⟨k4, 3, none⟩ u3).setCell ⟨k4, 4, none⟩ u4).setCell ⟨k4, 5, none⟩ u5).setCell ⟨k4, 6, none⟩ u6) k4 83 cs ∧ Upd (fun k => k = k4) we (((((((we.setCell ⟨k4, 0, none⟩ u0).setCell ⟨k4, 1, none⟩ u1).setCell ⟨k4, 2, none⟩ u2).setCell ⟨k4, 3, none⟩ u3).setCell ⟨k4, 4, none⟩ u4).setCell ⟨k4, 5, none⟩ u5).setCell ⟨k4, 6, none⟩ u6) from store7 HOW9.out.c4 rfl)
                go_upto_block 3 with fail
                go_cut [] (fun wx => wx = we ∧ (f1 = 0 ∨ f1 = 11))
                case first => as_aux_lemma =>
                  by_cases e0 : f1 = 0
                  · have d0 : (f1 == 0) = true := by simp [e0]
                    go_wp2_with fail
                    go_meet
                    exact ⟨rfl, .inl e0⟩
                  · have d0 : (f1 == 0) = false := by simp [e0]
                    by_cases e1 : f1 = 11
                    · have d1 : (f1 == 11) = true := by simp [e1]
                      go_wp2_with fail
                      go_meet
                      exact ⟨rfl, .inr e1⟩
                    · have d1 : (f1 == 11) = false := by simp [e1]
                      have HNO := Lib.hid (show ¬ ((oneC s).1.fin.1 = 0 ∨ (oneC s).1.fin.1 = 11) by rw [HF1.out]; rintro (h | h) <;> omega)
                      by_cases e2 : f1 = 10
                      · have d2 : (f1 == 10) = true := by simp [e2]
                        have HI := Lib.hid (show (if (oneC s).1.fin.1 = 10 then 10 else 12 : Int) = 10 by rw [HF1.out, if_pos e2])
                        clear e0 e1 e2
                        go_wp2_with fail
                        have hk := HK4.out _ _ _ _ _ _ _ _ zero_cells
                        refine bodyPost_ret (results_cell3 rfl rfl hk.1 Try.underlying83 rfl size83) rfl ?_
                        refine ⟨HOW9.out.upd.trans hk.2 (fun j hj e => by have := HOW9.out.h4; omega), .inr ⟨HNO.out, ?_⟩⟩
                        rw [HI.out]
                        rfl
                      · have d2 : (f1 == 10) = false := by simp [e2]
                        have HI := Lib.hid (show (if (oneC s).1.fin.1 = 10 then 10 else 12 : Int) = 12 by rw [HF1.out, if_neg e2])
                        clear e0 e1 e2
                        go_wp2_with fail
                        have hk := HK4.out _ _ _ _ _ _ _ _ zero_cells
                        refine bodyPost_ret (results_cell3 rfl rfl hk.1 Try.underlying83 rfl size83) rfl ?_
                        refine ⟨HOW9.out.upd.trans hk.2 (fun j hj e => by have := HOW9.out.h4; omega), .inr ⟨HNO.out, ?_⟩⟩
                        rw [HI.out]
                        rfl
                case rest =>
                  obtain ⟨rfl, hfo⟩ := hcut
                  have HYES := Lib.hid (show (oneC s).1.fin.1 = 0 ∨ (oneC s).1.fin.1 = 11 by rw [HF1.out]; exact hfo)
                  clear hfo c0 c1 c2 c3 c4 c5 c6 z0 z1 z2 z3 z4 z5 z6 HK4
                  obtain ⟨av, cv, rfl, hcv, hcv2, hav⟩ := own_form HOW9.out.ow
                  have HAV := Lib.hid hav
                  clear hav
                  have z6 := HOW9.out.g6
                  have hLm : tos.length ≤ 6 := by have := HTL.out; omega
                  go_wp2_with fail
                  go_loopw [162] (fun j wr => ∃ q : Nat, j = .int .i64 q ∧ q ≤ tos.length ∧ OW w wr k4 k8 k9 a vs (.slice av tos.length cv) rF ⟨0, op, A, B, x, y, tx, shift tos sz q⟩) (fun j _ => tos.length - (intOf j).toNat)
                  case atStart => exact ⟨0, rfl, by omega, by rw [shift_zero]; exact HOW9.out⟩
                  case round =>
                    obtain ⟨q, rfl, hq, ho⟩ := hrel
                    have HO := Lib.hid ho
                    clear z6
                    by_cases hlq : q < tos.length
                    · obtain ⟨g, rfl⟩ := HAV.out (show 0 < tos.length by omega)
                      have z6 := ho.g6
                      have gq := own_int' ho.ow (shift_get (z := sz) hlq)
                      have fq := own_free ho.ow q
                      have hrg := HTR.out _ (List.getElem_mem hlq)
                      have HSS := Lib.hid (shift_set (l := tos) (z := sz) hlq)
                      obtain ⟨t, ht⟩ : ∃ t, t = tos[q] := ⟨_, rfl⟩
                      rw [← ht] at gq hrg HSS
                      have hwr : IntKind.i64.wrap (t + sz) = t + sz := IntWalk.i64_in _ (by omega)
                      have k0 : (0 : Int) ≤ (q : Int) := by omega
                      have k1 : (q : Int) < (tos.length : Int) := by omega
                      have k2 : decide (q < tos.length) = true := by simp; omega
                      have k3 : q + 1 ≤ tos.length := by omega
                      have HPL := Lib.hid (HO.out.place q (by rw [show (IV.tos ⟨0, op, A, B, x, y, tx, shift tos sz q⟩).length = tos.length from shift_len tos sz q]; exact hlq) (t + sz))
                      clear ht ho hlq hq
                      go_wp2_with fail
                      go_roundw
                      case rel =>
                        refine ⟨q + 1, by go_num, k3, ?_⟩
                        have := HPL.out
                        simp only [HSS.out] at this
                        exact this
                      case measure => (try simp [intOf]) <;> (try omega)
                    · have hq' : q = tos.length := by omega
                      subst hq'
                      have k1 : ¬ ((tos.length : Int) < (tos.length : Int)) := by omega
                      rw [shift_full] at HO
                      clear hlq hq ho
                      have c0 := HO.out.c4.get (i := 0) rfl
                      have c1 := HO.out.c4.get (i := 1) rfl
                      have c2 := HO.out.c4.get (i := 2) rfl
                      have c3 := HO.out.c4.get (i := 3) rfl
                      have c4 := HO.out.c4.get (i := 4) rfl
                      have c5 := HO.out.c4.get (i := 5) rfl
                      have c6 := HO.out.c4.get (i := 6) rfl
                      have z0 := HO.out.c4.free 0
                      have z1 := HO.out.c4.free 1
                      have z2 := HO.out.c4.free 2
                      have z3 := HO.out.c4.free 3
                      have z4 := HO.out.c4.free 4
                      have z5 := HO.out.c4.free 5
                      have z6 := HO.out.c4.free 6
                      have HK4 := Lib.hid (store7 HO.out.c4 rfl (IV.cells ⟨0, op, A, B, x, y, tx, tos.map (· + sz)⟩ (.slice av tos.length cv)) _ _ _ _ _ _ _ rfl)
                      go_wp2_with (refine wpList_load_mid rfl 83 (.tmp 9) rfl k9 0 (by first | rfl | (congr 3)) [.int .i64 0, .int .i64 op, .int .i64 A, .int .i64 B, .complex .f64 (fl x) (fl y), .string (strOf tx), .slice av tos.length cv] _ HO.out.c9.range Try.underlying83 rfl size83 ?_)
                      refine bodyPost_ret (results_cell3 rfl rfl HK4.out.1 Try.underlying83 rfl size83) rfl ?_
                      have hup := HO.out.upd.trans HK4.out.2 (fun j hj e => by have := HO.out.h4; omega)
                      have how := ownsRow_upd HO.out.ow HK4.out.2 (fun j hj e => by have := HO.out.ht j hj; have := HO.out.ha; have := HO.out.h8; omega)
                      refine ⟨hup, .inl ⟨HYES.out, .slice av tos.length cv, ?_, ?_⟩⟩
                      · rw [HSZ.out, HONE.out]
                        rfl
                      · rw [HSZ.out, HONE.out]
                        exact how
end Go.Proofs.Ytbpeoclhabgcgaa
