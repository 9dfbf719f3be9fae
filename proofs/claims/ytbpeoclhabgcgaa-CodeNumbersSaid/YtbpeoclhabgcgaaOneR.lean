import Derived.Test.YtbpeoclhabgcgaaStoreZ
namespace Go.Proofs.Ytbpeoclhabgcgaa
open Go.RowKit
set_option linter.unusedVariables false
set_option linter.unusedSimpArgs false
set_option maxHeartbeats 160000000 in
set_option maxRecDepth 100000 in
theorem rone_any (v : Value) (l : List UInt8) (p : Nat) (w : World) (hb : Bytes w v l) (hl : l.length ≤ 2048) (hp : p < l.length) :
    Calls Try.prog 60 #[v, .int .i64 p, .bool false] w (RP l p w) := by
  have HB := Lib.hid hb
  obtain ⟨ao, cap, rfl, hcap, hcm, hdj⟩ := hb
  obtain ⟨vb, vo, rfl, hcl⟩ := hdj.resolve_left (by intro e; rw [e] at hp; simp at hp)
  have c0 := hcl p hp
  have hopd : opAt l p = (l[p].toNat : Int) := by
    unfold opAt
    rw [List.drop_eq_getElem_cons hp]
    rfl
  have hbl := l[p].toNat_lt
  generalize l[p] = ob at *
  simp only [byteV] at c0
  obtain ⟨op, hop⟩ : ∃ op, op = (ob.toNat : Int) := ⟨_, rfl⟩
  rw [← hop] at c0 hopd
  have hopr : 0 ≤ op ∧ op < 256 := by omega
  have hw64 : wrap64 op = op := by unfold wrap64; omega
  have HOP := Lib.hid hopd
  clear hcl hopd hbl hop hdj
  have d1 : decide ((p : Int) < 0) = false := decide_eq_false (by omega)
  have d2 : decide ((l.length : Int) ≤ (p : Int)) = false := decide_eq_false (by omega)
  have d3 : ¬ ((l.length : Int) ≤ (p : Int)) := by omega
  have d4 : ¬ ((p : Int) < 0) := by omega
  have d5 : (p : Int) < (l.length : Int) := by omega
  have d6 : (0 : Int) ≤ (p : Int) := by omega
  have d7 : decide (p < l.length) = true := by simp [hp]
  have d8 : IntKind.i64.wrap ((p : Int) + 1) = (p : Int) + 1 := IntWalk.i64_in _ (by omega)
  have HP := Lib.hid hp
  have c0a := ((Upd.refl (fun _ => False) w).alloc (.cells #[.int .i64 0, .int .i64 0, .int .i64 0, .int .i64 0, .complex .f64 0 0, .string ⟨#[]⟩, .slice none 0 0] 99)).cell_some c0 (fun h => h)
  go_enter Try.func60, Try.ntmps60
  go_upto_region 5 with fail
  have HRW0 := Lib.hid (RW.start HB.out hl HP.out op)
  obtain ⟨w3, hw3⟩ : ∃ w3, w3 = (((w.alloc (.cells #[.int .i64 0, .int .i64 0, .int .i64 0, .int .i64 0, .complex .f64 0 0, .string ⟨#[]⟩, .slice none 0 0] 99)).alloc (.cells #[.int .i64 p, .int .i64 op, .int .i64 0, .int .i64 0, .complex .f64 0 0, .string ⟨#[]⟩, .slice none 0 0] 99)).alloc (.cells #[.slice (some ⟨vb, vo, none⟩) l.length cap, .int .i64 ((p : Int) + 1), .bool false, .int .i64 0, .int .i64 0] 62)) := ⟨_, rfl⟩
  rw [← hw3] at HRW0 ⊢
  obtain ⟨k6, hk6⟩ : ∃ k, k = w.heap.size := ⟨_, rfl⟩
  rw [← hk6] at HRW0 ⊢
  obtain ⟨k9, hk9⟩ : ∃ k, k = k6 + 1 := ⟨_, rfl⟩
  rw [← hk9] at HRW0 ⊢
  obtain ⟨a, ha⟩ : ∃ k, k = k9 + 1 := ⟨_, rfl⟩
  rw [← ha] at HRW0 ⊢
  obtain ⟨v, hv⟩ : ∃ v, v = Value.slice (some ⟨vb, vo, none⟩) l.length cap := ⟨_, rfl⟩
  rw [← hv] at HRW0
  obtain ⟨r0, hr0⟩ : ∃ r0 : RS, r0 = ⟨l, p + 1, 0, 0⟩ := ⟨_, rfl⟩
  rw [← hr0] at HRW0
  have HR0 := Lib.hid hr0
  clear hw3 hk6 hk9 ha hv hr0 c0 c0a d1 d2 d3 d4 d5 d6 d7 d8 hw64 HB HP
  have g1 := HRW0.out.g1
  rcases hok : okOp op with _ | _
  · have HC := Lib.hid (show (oneR l p).1 = 12 from oneR_op HOP.out hok)
    by_cases h1 : op < 1
    · have e1 : decide (op < 1) = true := decide_eq_true h1
      go_wp2_with (refine wpList_storeZ rfl 99 _ _ rfl HRW0.out.c6 rfl rfl rfl size99 ?czb1)
      case czb1 =>
      intro wz hz hu
      have HZ := Lib.hid hz
      have HZU := Lib.hid hu
      clear hz hu
      go_wp2_with fail
      refine bodyPost_ret (results_cell2 rfl rfl HZ.out Try.underlying99 rfl size99) rfl ?_
      exact RW.refused HRW0.out HC.out (by omega) HZU.out
    · have e1 : decide (op < 1) = false := decide_eq_false h1
      have e2 : decide (15 < op) = true := decide_eq_true (by simp only [okOp, Bool.and_eq_false_iff, decide_eq_false_iff_not] at hok; omega)
      go_wp2_with (refine wpList_storeZ rfl 99 _ _ rfl HRW0.out.c6 rfl rfl rfl size99 ?czb2)
      case czb2 =>
      intro wz hz hu
      have HZ := Lib.hid hz
      have HZU := Lib.hid hu
      clear hz hu
      go_wp2_with fail
      refine bodyPost_ret (results_cell2 rfl rfl HZ.out Try.underlying99 rfl size99) rfl ?_
      exact RW.refused HRW0.out HC.out (by omega) HZU.out
  · have h12 : 1 ≤ op ∧ op ≤ 15 := by simp only [okOp, Bool.and_eq_true, decide_eq_true_eq] at hok; exact hok
    have e1 : decide (op < 1) = false := decide_eq_false (by omega)
    have e2 : decide (15 < op) = false := decide_eq_false (by omega)
    have HOK := Lib.hid hok
    clear hok
    go_wp2_with fail
    refine (rasks_any op _).mono ?_
    rintro e w4 ⟨rfl, rfl⟩
    obtain ⟨bA, hbA⟩ : ∃ b, b = asksA op := ⟨_, rfl⟩
    obtain ⟨bB, hbB⟩ : ∃ b, b = asksB op := ⟨_, rfl⟩
    rw [← hbA, ← hbB]
    have HBA := Lib.hid hbA
    have HBB := Lib.hid hbB
    clear hbA hbB e1 e2
    go_upto_if 60 with fail
    go_cut [] (fun wx => bad1 op (rBody op r0) = false ∧ RW w wx k6 k9 a v (.slice none 0 0) (pB op r0).1 ⟨p, op, 0, 0, (pB op r0).2.1, (pB op r0).2.2, [], []⟩)
    case first => as_aux_lemma =>
      by_cases h1 : op = 1
      · have d1 : (op == 1) = true := by simp [h1]
        have HE := Lib.hid (show pB op r0 = (r0.signed.1.signed.1, r0.signed.2, r0.signed.1.signed.2) by simp [pB, h1])
        have HBD := Lib.hid (show bad1 op (rBody op r0) = (decide (r0.signed.1.signed.1.why = 0) && !(fits r0.signed.2 && fits r0.signed.1.signed.2)) by simp [bad1, rBody, h1])
        have HC0 := Lib.hid (show bad1 op (rBody op r0) = true → (oneR l p).1 = 12 from oneR_b1 HOP.out HOK.out HR0.out)
        clear h1
        go_wp2_with fail
        refine (fsigned_any a v r0 _ HRW0.out.rf).mono ?_
        rintro e w5 ⟨rfl, hp⟩
        have HN := Lib.hid (HRW0.out.read hp)
        clear hp
        go_wp2_with fail
        refine (fsigned_any a v r0.signed.1 _ HN.out.rf).mono ?_
        rintro e w6 ⟨rfl, hp⟩
        have HN := Lib.hid (HN.out.read hp)
        have g2 := HN.out.rf.get2
        have g4 := HN.out.g4
        have f4 := HN.out.fz 4
        clear hp
        obtain ⟨x, hx⟩ : ∃ x, x = r0.signed.2 := ⟨_, rfl⟩
        obtain ⟨y, hy⟩ : ∃ y, y = r0.signed.1.signed.2 := ⟨_, rfl⟩
        rw [← hx, ← hy] at HE HBD ⊢
        clear hx hy
        generalize r0.signed.1.signed.1 = r2 at *
        by_cases hw : r2.why = 0
        · rw [show (r2.why != 0) = false by simpa using hw] at g2
          have HW := Lib.hid (show decide (r2.why = 0) = true by simpa using hw)
          clear hw
          by_cases x1 : x < -1048576
          · have b1 : decide (x < -1048576) = true := decide_eq_true x1
            have HC := Lib.hid (HC0.out (by rw [HBD.out, HW.out]; simp [fits]; omega))
            clear x1
            go_wp2_with (refine wpList_storeZ rfl 99 _ _ rfl HN.out.c6 rfl rfl rfl size99 ?czb3)
            case czb3 =>
            intro wz hz hu
            have HZ := Lib.hid hz
            have HZU := Lib.hid hu
            clear hz hu
            go_wp2_with fail
            refine bodyPost_ret (results_cell2 rfl rfl HZ.out Try.underlying99 rfl size99) rfl ?_
            exact RW.refused HN.out HC.out (by omega) HZU.out
          · have b1 : decide (x < -1048576) = false := decide_eq_false x1
            by_cases x2 : 1048576 < x
            · have b2 : decide (1048576 < x) = true := decide_eq_true x2
              have HC := Lib.hid (HC0.out (by rw [HBD.out, HW.out]; simp [fits]; omega))
              clear x1 x2
              go_wp2_with (refine wpList_storeZ rfl 99 _ _ rfl HN.out.c6 rfl rfl rfl size99 ?czb4)
              case czb4 =>
              intro wz hz hu
              have HZ := Lib.hid hz
              have HZU := Lib.hid hu
              clear hz hu
              go_wp2_with fail
              refine bodyPost_ret (results_cell2 rfl rfl HZ.out Try.underlying99 rfl size99) rfl ?_
              exact RW.refused HN.out HC.out (by omega) HZU.out
            · have b2 : decide (1048576 < x) = false := decide_eq_false x2
              by_cases y1 : y < -1048576
              · have b3 : decide (y < -1048576) = true := decide_eq_true y1
                have HC := Lib.hid (HC0.out (by rw [HBD.out, HW.out]; simp [fits]; omega))
                clear x1 x2 y1
                go_wp2_with (refine wpList_storeZ rfl 99 _ _ rfl HN.out.c6 rfl rfl rfl size99 ?czb5)
                case czb5 =>
                intro wz hz hu
                have HZ := Lib.hid hz
                have HZU := Lib.hid hu
                clear hz hu
                go_wp2_with fail
                refine bodyPost_ret (results_cell2 rfl rfl HZ.out Try.underlying99 rfl size99) rfl ?_
                exact RW.refused HN.out HC.out (by omega) HZU.out
              · have b3 : decide (y < -1048576) = false := decide_eq_false y1
                by_cases y2 : 1048576 < y
                · have b4 : decide (1048576 < y) = true := decide_eq_true y2
                  have HC := Lib.hid (HC0.out (by rw [HBD.out, HW.out]; simp [fits]; omega))
                  clear x1 x2 y1 y2
                  go_wp2_with (refine wpList_storeZ rfl 99 _ _ rfl HN.out.c6 rfl rfl rfl size99 ?czb6)
                  case czb6 =>
                  intro wz hz hu
                  have HZ := Lib.hid hz
                  have HZU := Lib.hid hu
                  clear hz hu
                  go_wp2_with fail
                  refine bodyPost_ret (results_cell2 rfl rfl HZ.out Try.underlying99 rfl size99) rfl ?_
                  exact RW.refused HN.out HC.out (by omega) HZU.out
                · have b4 : decide (1048576 < y) = false := decide_eq_false y2
                  have HOKB := Lib.hid (show bad1 op (rBody op r0) = false by rw [HBD.out, HW.out]; simp [fits]; omega)
                  clear x1 x2 y1 y2
                  go_wp2_with fail
                  refine (of_any x y _).mono ?_
                  rintro e w7 ⟨rfl, rfl⟩
                  go_wp2_with fail
                  go_meet
                  refine ⟨HOKB.out, ?_⟩
                  rw [HE.out]
                  exact HN.out.field 4 (.complex .f64 (fl x) (fl y)) ⟨p, op, 0, 0, x, y, [], []⟩ rfl rfl
        · rw [show (r2.why != 0) = true by simpa using hw] at g2
          have HOKB := Lib.hid (show bad1 op (rBody op r0) = false by rw [HBD.out]; simp [hw])
          clear hw
          go_wp2_with fail
          refine (of_any x y _).mono ?_
          rintro e w7 ⟨rfl, rfl⟩
          go_wp2_with fail
          go_meet
          refine ⟨HOKB.out, ?_⟩
          rw [HE.out]
          exact HN.out.field 4 (.complex .f64 (fl x) (fl y)) ⟨p, op, 0, 0, x, y, [], []⟩ rfl rfl
      · have d1 : (op == 1) = false := by simp [h1]
        have HE := Lib.hid (show pB op r0 = (r0, 0, 0) by simp [pB, h1])
        have HBD := Lib.hid (show bad1 op (rBody op r0) = false by simp [bad1, h1])
        clear h1
        go_wp2_with fail
        go_meet
        refine ⟨HBD.out, ?_⟩
        rw [HE.out]; exact HRW0.out
    case rest =>
      obtain ⟨hb1, hcut⟩ := hcut
      have HRW1 := Lib.hid hcut
      have HB1 := Lib.hid hb1
      clear hcut hb1 HRW0
      obtain ⟨r1, hr1⟩ : ∃ r, r = (pB op r0).1 := ⟨_, rfl⟩
      obtain ⟨x, hx⟩ : ∃ r, r = (pB op r0).2.1 := ⟨_, rfl⟩
      obtain ⟨y, hy⟩ : ∃ r, r = (pB op r0).2.2 := ⟨_, rfl⟩
      rw [← hr1, ← hx, ← hy] at HRW1
      have HPB := Lib.hid (show pB op r0 = (r1, x, y) by rw [hr1, hx, hy])
      clear hr1 hx hy
      have g1 := HRW1.out.g1
      go_upto_if 93 with fail
      go_cut [] (fun wx => RW w wx k6 k9 a v (.slice none 0 0) (lT op r1).1 ⟨p, op, 0, 0, x, y, (lT op r1).2, []⟩)
      case first => as_aux_lemma =>
        by_cases h2 : op = 2
        · have HE := Lib.hid (show lT op r1 = r1.text 200 by simp [lT, h2])
          have d2 : (op == 2) = true := by simp [h2]
          clear h2
          go_wp2_with fail
          refine (ftext_any a v r1 200 _ HRW1.out.rf (by omega)).mono ?_
          rintro e w5 ⟨rfl, hp⟩
          have HN := Lib.hid (HRW1.out.read hp)
          have z5 := HN.out.g5
          have f5 := HN.out.fz 5
          clear hp
          go_wp2_with fail
          go_meet
          rw [HE.out]
          exact HN.out.field 5 (.string (strOf (r1.text 200).2)) ⟨p, op, 0, 0, x, y, (r1.text 200).2, []⟩ rfl rfl
        · have HE := Lib.hid (show lT op r1 = (r1, []) by simp [lT, h2])
          have d2 : (op == 2) = false := by simp [h2]
          clear h2
          go_wp2_with fail
          go_meet
          rw [HE.out]
          exact HRW1.out
      case rest =>
        have HRW2 := Lib.hid hcut
        clear hcut HRW1 g1
        obtain ⟨r2, hr2⟩ : ∃ r, r = (lT op r1).1 := ⟨_, rfl⟩
        obtain ⟨tx, htx⟩ : ∃ r, r = (lT op r1).2 := ⟨_, rfl⟩
        rw [← hr2, ← htx] at HRW2
        have HCB := Lib.hid (show rBody op r0 = (r2, x, y, tx) by rw [rBody_eq, HPB.out]; simp only [← hr2, ← htx])
        clear hr2 htx
        go_upto_if 97 with fail
        go_cut [] (fun wx => RW w wx k6 k9 a v (.slice none 0 0) (stA op r2).1 ⟨p, op, (stA op r2).2, 0, x, y, tx, []⟩)
        case first => as_aux_lemma =>
          cases bA
          · have HE := Lib.hid (show stA op r2 = (r2, 0) by simp [stA, ← HBA.out])
            go_wp2_with fail
            go_meet
            rw [HE.out]; exact HRW2.out
          · have HE := Lib.hid (show stA op r2 = r2.byte by simp [stA, ← HBA.out])
            go_wp2_with fail
            refine (one_any a v r2 _ HRW2.out.rf).mono ?_
            rintro e w5 ⟨rfl, hp⟩
            have HN := Lib.hid (HRW2.out.read hp)
            have z2 := HN.out.g2
            have f2 := HN.out.fz 2
            clear hp
            go_wp2_with fail
            go_meet
            rw [HE.out]
            exact HN.out.field 2 (.int .i64 r2.byte.2) ⟨p, op, r2.byte.2, 0, x, y, tx, []⟩ rfl rfl
        case rest =>
          have HRW3 := Lib.hid hcut
          clear hcut HRW2
          obtain ⟨r3, hr3⟩ : ∃ r, r = (stA op r2).1 := ⟨_, rfl⟩
          obtain ⟨A, hA⟩ : ∃ A, A = (stA op r2).2 := ⟨_, rfl⟩
          have hAr : 0 ≤ A ∧ A < 256 := by
            rw [hA]; unfold stA; split
            · exact byte_range r2
            · simp
          rw [← hr3, ← hA] at HRW3
          have HSA := Lib.hid (show stA op r2 = (r3, A) by rw [hr3, hA])
          clear hr3 hA
          go_upto_if 101 with fail
          go_cut [] (fun wx => RW w wx k6 k9 a v (.slice none 0 0) (stB op r3).1 ⟨p, op, A, (stB op r3).2, x, y, tx, []⟩)
          case first => as_aux_lemma =>
            cases bB
            · have HE := Lib.hid (show stB op r3 = (r3, 0) by simp [stB, ← HBB.out])
              go_wp2_with fail
              go_meet
              rw [HE.out]; exact HRW3.out
            · have HE := Lib.hid (show stB op r3 = r3.byte by simp [stB, ← HBB.out])
              go_wp2_with fail
              refine (one_any a v r3 _ HRW3.out.rf).mono ?_
              rintro e w5 ⟨rfl, hp⟩
              have HN := Lib.hid (HRW3.out.read hp)
              have z3 := HN.out.g3
              have f3 := HN.out.fz 3
              clear hp
              go_wp2_with fail
              go_meet
              rw [HE.out]
              exact HN.out.field 3 (.int .i64 r3.byte.2) ⟨p, op, A, r3.byte.2, x, y, tx, []⟩ rfl rfl
          case rest =>
            have HRW4 := Lib.hid hcut
            clear hcut HRW3
            obtain ⟨r5, hr5⟩ : ∃ r, r = (stB op r3).1 := ⟨_, rfl⟩
            obtain ⟨B, hB⟩ : ∃ B, B = (stB op r3).2 := ⟨_, rfl⟩
            rw [← hr5, ← hB] at HRW4
            have HSB := Lib.hid (show stB op r3 = (r5, B) by rw [hr5, hB])
            clear hr5 hB
            go_upto_region 20 with fail
            have g1 := HRW4.out.g1
            have g2 := HRW4.out.g2
            have gw := HRW4.out.rf.get2
            rcases hb2 : bad2 op A r5 with _ | _
            rotate_left
            · have HC := Lib.hid (show (oneR l p).1 = 12 from oneR_b2 HOP.out HOK.out HR0.out HB1.out HCB.out HSA.out HSB.out hb2)
              have hb2' : op = 10 ∧ r5.why = 0 ∧ (A < 1 ∨ 6 < A) := by simpa [bad2] using hb2
              have d1 : (op == 10) = true := by simp [hb2'.1]
              rw [show (r5.why != 0) = false by simpa using hb2'.2.1] at gw
              have h3 := hb2'.2.2
              clear hb2' hb2
              by_cases a1 : A < 1
              · have d2 : decide (A < 1) = true := decide_eq_true a1
                clear h3 a1
                go_wp2_with (refine wpList_storeZ rfl 99 _ _ rfl HRW4.out.c6 rfl rfl rfl size99 ?czc1)
                case czc1 =>
                intro wz hz hu
                have HZ := Lib.hid hz
                have HZU := Lib.hid hu
                clear hz hu
                go_wp2_with fail
                refine bodyPost_ret (results_cell2 rfl rfl HZ.out Try.underlying99 rfl size99) rfl ?_
                exact RW.refused HRW4.out HC.out (by omega) HZU.out
              · have d2 : decide (A < 1) = false := decide_eq_false a1
                have d3 : decide (6 < A) = true := decide_eq_true (by omega)
                clear h3 a1
                go_wp2_with (refine wpList_storeZ rfl 99 _ _ rfl HRW4.out.c6 rfl rfl rfl size99 ?czc2)
                case czc2 =>
                intro wz hz hu
                have HZ := Lib.hid hz
                have HZU := Lib.hid hu
                clear hz hu
                go_wp2_with fail
                refine bodyPost_ret (results_cell2 rfl rfl HZ.out Try.underlying99 rfl size99) rfl ?_
                exact RW.refused HRW4.out HC.out (by omega) HZU.out
            · have HB2 := Lib.hid hb2
              go_cut [124] (fun s wx => s = .bool false ∧ ∃ nd, wx = wc.drewN nd)
              case first => as_aux_lemma =>
                by_cases h10 : op = 10
                · have d1 : (op == 10) = true := by simp [h10]
                  by_cases hw : r5.why = 0
                  · rw [show (r5.why != 0) = false by simpa using hw] at gw
                    have h3 : 1 ≤ A ∧ A ≤ 6 := by
                      have := hb2
                      simp [bad2, h10, hw] at this
                      omega
                    have d2 : decide (A < 1) = false := decide_eq_false (by omega)
                    have d3 : decide (6 < A) = false := decide_eq_false (by omega)
                    clear hw h3 h10 hb2
                    go_wp2_with fail
                    go_meet
                    exact ⟨rfl, 0, rfl⟩
                  · rw [show (r5.why != 0) = true by simpa using hw] at gw
                    clear hw h10 hb2
                    go_wp2_with fail
                    go_meet
                    exact ⟨rfl, 0, rfl⟩
                · have d1 : (op == 10) = false := by simp [h10]
                  clear h10 hb2
                  go_wp2_with fail
                  go_meet
                  exact ⟨rfl, 0, rfl⟩
              case rest =>
                obtain ⟨rfl, nd, rfl⟩ := hcut
                have HRW5 := Lib.hid (HRW4.out.drewN nd)
                obtain ⟨w5, hw5⟩ : ∃ w5, w5 = wc.drewN nd := ⟨_, rfl⟩
                rw [← hw5] at HRW5 ⊢
                clear hw5 g1 g2 gw HRW4 hb2
                have g1 := HRW5.out.g1
                go_wp2_with fail
                refine (rtakes_any op _).mono ?_
                rintro e w6 ⟨rfl, rfl⟩
                obtain ⟨bT, hbT⟩ : ∃ b, b = takesB op := ⟨_, rfl⟩
                obtain ⟨nT, hnT⟩ : ∃ b, b = takesN op := ⟨_, rfl⟩
                rw [← hbT, ← hnT]
                have HBT := Lib.hid hbT
                clear hbT hnT g1
                go_upto_region 23 with fail
                go_cut [141] (fun s wx => s = .bool (decide ((rR op r5).2 ≠ 0)) ∧ RW w wx k6 k9 a v (.slice none 0 0) (rR op r5).1 ⟨p, op, A, B, x, y, tx, []⟩)
                case first => as_aux_lemma =>
                  cases bT
                  · have HE := Lib.hid (show rR op r5 = (r5, 0) by simp [rR, ← HBT.out])
                    go_wp2_with fail
                    go_meet
                    rw [HE.out]; exact ⟨by simp, HRW5.out⟩
                  · have HE := Lib.hid (show rR op r5 = r5.word by simp [rR, ← HBT.out])
                    go_wp2_with fail
                    refine (two_any a v r5 _ HRW5.out.rf).mono ?_
                    rintro e w7 ⟨rfl, hp⟩
                    have HN := Lib.hid (HRW5.out.read hp)
                    clear hp
                    by_cases h0 : r5.word.2 = 0
                    · have d0 : (r5.word.2 == 0) = true := by simp [h0]
                      have d0' : (r5.word.2 != 0) = false := by simp [h0]
                      have HD := Lib.hid h0
                      clear h0
                      go_wp2_with fail
                      go_meet
                      rw [HE.out]; exact ⟨by simp [HD.out], HN.out⟩
                    · have d0 : (r5.word.2 == 0) = false := by simp [h0]
                      have d0' : (r5.word.2 != 0) = true := by simp [h0]
                      have HD := Lib.hid h0
                      clear h0
                      go_wp2_with fail
                      go_meet
                      rw [HE.out]; exact ⟨by simp [HD.out], HN.out⟩
                case rest =>
                  obtain ⟨hs, hcut⟩ := hcut
                  have HRW6 := Lib.hid hcut
                  clear hcut HRW5
                  obtain ⟨r6, hr6⟩ : ∃ r, r = (rR op r5).1 := ⟨_, rfl⟩
                  obtain ⟨ref, href⟩ : ∃ r, r = (rR op r5).2 := ⟨_, rfl⟩
                  rw [← hr6] at HRW6
                  rw [← href] at hs
                  have HSR := Lib.hid (show rR op r5 = (r6, ref) by rw [hr6, href])
                  obtain ⟨bR, hbR⟩ : ∃ b, b = decide (ref ≠ 0) := ⟨_, rfl⟩
                  rw [← hbR] at hs
                  have HBR := Lib.hid hbR
                  clear hr6 href hbR
                  subst hs
                  cases bR
                  rotate_left
                  · have hr : ref ≠ 0 := of_decide_eq_true HBR.out.symm
                    have HC := Lib.hid (show (oneR l p).1 = 12 from oneR_b3 HOP.out HOK.out HR0.out HB1.out HCB.out HSA.out HSB.out HB2.out HSR.out hr)
                    clear hr
                    go_wp2_with (refine wpList_storeZ rfl 99 _ _ rfl HRW6.out.c6 rfl rfl rfl size99 ?czc3)
                    case czc3 =>
                    intro wz hz hu
                    have HZ := Lib.hid hz
                    have HZU := Lib.hid hu
                    clear hz hu
                    go_wp2_with fail
                    refine bodyPost_ret (results_cell2 rfl rfl HZ.out Try.underlying99 rfl size99) rfl ?_
                    exact RW.refused HRW6.out HC.out (by omega) HZU.out
                  · have HRF := Lib.hid (show ref = 0 by have := of_decide_eq_false HBR.out.symm; simpa using this)
                    have HONE := Lib.hid (oneR_end HOP.out HOK.out HR0.out HB1.out HCB.out HSA.out HSB.out HB2.out HSR.out HRF.out)
                    clear HB1 HCB HSA HSB HB2 HSR HRF HOP HOK HR0 HPB
                    have g1 := HRW6.out.g1
                    have g2 := HRW6.out.g2
                    have hNr : 0 ≤ rN op A ∧ rN op A ≤ 255 := by unfold rN; split; omega; split <;> omega
                    go_upto_block 0 with fail
                    go_cut [17] (fun s wx => s = .int .i64 (rN op A) ∧ wx = wc)
                    case first => as_aux_lemma =>
                      by_cases h5 : op = 5
                      · have d5 : (op == 5) = true := by simp [h5]
                        have HE := Lib.hid (show rN op A = 1 by simp [rN, h5])
                        clear h5
                        go_wp2_with fail
                        go_meet
                        exact ⟨by rw [HE.out], rfl⟩
                      · have d5 : (op == 5) = false := by simp [h5]
                        by_cases h6 : op = 6
                        · have d6 : (op == 6) = true := by simp [h6]
                          have HE := Lib.hid (show rN op A = 1 by simp [rN, h6])
                          clear h5 h6
                          go_wp2_with fail
                          go_meet
                          exact ⟨by rw [HE.out], rfl⟩
                        · have d6 : (op == 6) = false := by simp [h6]
                          by_cases h10 : op = 10
                          · have d10 : (op == 10) = true := by simp [h10]
                            have HE := Lib.hid (show rN op A = A by simp [rN, h10])
                            clear h5 h6 h10
                            go_wp2_with fail
                            go_meet
                            exact ⟨by rw [HE.out], rfl⟩
                          · have d10 : (op == 10) = false := by simp [h10]
                            have HE := Lib.hid (show rN op A = 0 by simp [rN, h5, h6, h10])
                            clear h5 h6 h10
                            go_wp2_with fail
                            go_meet
                            exact ⟨by rw [HE.out], rfl⟩
                    case rest =>
                      obtain ⟨rfl, rfl⟩ := hcut
                      clear g1 g2
                      obtain ⟨n, hn⟩ := Int.eq_ofNat_of_zero_le hNr.1
                      rw [hn] at HONE hNr ⊢
                      rw [show ((n : Nat) : Int).toNat = n from Int.toNat_natCast n] at HONE
                      clear hn
                      go_upto_block 1 with fail
                      go_cut [] (fun wx => ∃ (q : Nat) (vt : Value), RW w wx k6 k9 a v vt (words r6 n).1 ⟨p, op, A, B, x, y, tx, (words r6 q).2⟩ ∧ ((words r6 n).1.why = 0 → q = n))
                      case first => as_aux_lemma =>
                        go_wp2_with fail
                        go_loopw [18] (fun j wr => ∃ (q : Nat) (vt : Value), j = .int .i64 q ∧ q ≤ n ∧ RW w wr k6 k9 a v vt (words r6 q).1 ⟨p, op, A, B, x, y, tx, (words r6 q).2⟩) (fun j _ => n - (intOf j).toNat)
                        case atStart => exact ⟨0, _, rfl, by omega, HRW6.out⟩
                        case round =>
                          obtain ⟨q, vt, rfl, hq, ho⟩ := hrel
                          have gw := ho.rf.get2
                          by_cases hlt : q < n
                          · have f1 : (q : Int) < (n : Int) := by omega
                            have f2 : decide ((q : Int) < (n : Int)) = true := decide_eq_true f1
                            by_cases hw : (words r6 q).1.why = 0
                            · rw [show ((words r6 q).1.why != 0) = false by simpa using hw] at gw
                              obtain ⟨av, cv, rfl, hcv, hcv2, _⟩ := own_form ho.ow
                              have HRWr := Lib.hid ho
                              rw [show (IV.tos ⟨p, op, A, B, x, y, tx, (words r6 q).2⟩).length = q from words_len r6 q] at *
                              have HRWd := Lib.hid (HRWr.out.keep ((Upd.refl (fun _ => False) wr).drew))
                              have z6 := HRWr.out.g6
                              have f4 : q + 1 ≤ n := by omega
                              have f5 : q ≤ 255 := by omega
                              obtain ⟨i3, hi3, y0, y1, y2⟩ := info_parts Try.info3
                              clear ho hlt hq hw
                              go_upto_region 35 with fail
                              refine wp_region_noPanic ?_
                              refine wp_region_held (S := fun _ => True) (by kernel_rfl) ?_
                              refine wpAnyH_take (i := 0) (v := .pointer (some ⟨k9, 6, none⟩)) (List.getElem?_toArray.trans rfl) (by kernel_rfl) (by kernel_rfl) (by kernel_rfl) (fun _ _ _ h => h) (Or.inl ⟨by rfl, fun w _ => by go_simp⟩) trivial ?_
                              try simp only [Act.put, List.setIfInBounds_toArray, List.set_cons_zero, List.set_cons_succ]
                              refine wpAnyH_take (i := 2) (v := .pointer (some ⟨a, 0, none⟩)) (List.getElem?_toArray.trans rfl) (by kernel_rfl) (by kernel_rfl) (by kernel_rfl) (fun _ _ _ h => h) (Or.inl ⟨by rfl, fun w _ => by rfl⟩) trivial ?_
                              try simp only [Act.put, List.setIfInBounds_toArray, List.set_cons_zero, List.set_cons_succ]
                              refine wpAnyH_ready (rs := [1, 3]) (by kernel_rfl) (by simp) (AllReadyH.cons (List.getElem?_toArray.trans rfl) (fun K hK => ?_) (AllReadyH.cons (List.getElem?_toArray.trans rfl) (fun K hK => ?_) AllReadyH.nil))
                              · go_simp
                                refine hK.out _ _ trivial (fun _ => ?_)
                                try simp only [Act.put, List.setIfInBounds_toArray, List.set_cons_zero, List.set_cons_succ]
                                refine wpAnyH_ready (rs := [3]) (by kernel_rfl) (by simp) (AllReadyH.cons (List.getElem?_toArray.trans rfl) (fun K hK => ?_) AllReadyH.nil)
                                go_simp
                                refine (two_any a v (words r6 q).1 _ HRWd.out.rf).mono ?_
                                rintro e w7 ⟨rfl, hp⟩
                                have HN7 := Lib.hid (HRWd.out.read hp)
                                have z6 := HN7.out.g6
                                have z6a := ((Upd.refl (fun _ => False) w7).alloc (.cells #[.int .i64 (words r6 q).1.word.2] 3)).cell_some z6 (fun h => h)
                                have HO7 := Lib.hid (show (w7.alloc (.cells #[.int .i64 (words r6 q).1.word.2] 3)).ownsRow w.heap.size 3 1 (.slice av q cv) q (intsV (words r6 q).2) by have h := ownsRow_upd HN7.out.ow ((Upd.refl (fun _ => False) w7).alloc (.cells #[.int .i64 (words r6 q).1.word.2] 3)) (fun _ _ h => h); change World.ownsRow _ _ _ _ _ (words r6 q).2.length _ at h; rw [words_len] at h; exact h)
                                have HSR7 := Lib.hid (ints_src Try.underlying81 (w := w7) (words r6 q).1.word.2)
                                clear hp
                                refine hK.out _ _ trivial (fun _ => ?_)
                                try simp only [Act.put, List.setIfInBounds_toArray, List.set_cons_zero, List.set_cons_succ]
                                refine wpAnyH_ready (rs := [4]) (by kernel_rfl) (by simp) (AllReadyH.cons (List.getElem?_toArray.trans rfl) (fun K hK => ?_) AllReadyH.nil)
                                go_simp
                                refine hK.out _ _ trivial (fun _ => ?_)
                                try simp only [Act.put, List.setIfInBounds_toArray, List.set_cons_zero, List.set_cons_succ]
                                refine wpAnyH_ready (rs := [5]) (by kernel_rfl) (by simp) (AllReadyH.cons (List.getElem?_toArray.trans rfl) (fun K hK => ?_) AllReadyH.nil)
                                refine step_append_src_own _ (by rfl) _ _ 81 81 (by rfl) w.heap.size 3 i3 _ 1 8 Try.underlying81 hi3 y0 y1 y2 rfl (.slice av q cv) q (intsV (words r6 q).2) (by rfl) HO7.out _ 1 [.int .i64 (words r6 q).1.word.2] (by rfl) HSR7.out (by unfold maxLen; omega) (by omega) (by have := HN7.out.upd.size; simp; omega) ?_
                                intro v' w8 p1 p2 p3 p4
                                have p1' : w8.ownsRow w.heap.size 3 1 v' ((words r6 q).2.length + 1) (intsV (words r6 q).2 ++ [.int .i64 (words r6 q).1.word.2]) := by rw [words_len]; exact p1
                                have HN8 := Lib.hid (HN7.out.push p2 p1' p3)
                                obtain ⟨av', cv', rfl, _, _, _⟩ := own_form p1
                                have hu8 := ((Upd.refl (fun j => (Value.slice av q cv).ownBlock = some j) w7).alloc (.cells #[.int .i64 (words r6 q).1.word.2] 3)).grown p2 (fun j h _ => h)
                                have z8 := hu8.cell_some z6 (fun e => by have := HN7.out.ht k9 e; have := HN7.out.ha; omega)
                                have f8 := Row.free (HN7.out.c9.upd hu8 (fun e => by have := HN7.out.ht k9 e; have := HN7.out.ha; omega)) 6
                                clear p1 p1' p2 p3 p4 hu8
                                refine hK.out _ _ trivial (fun _ => ?_)
                                try simp only [Act.put, List.setIfInBounds_toArray, List.set_cons_zero, List.set_cons_succ]
                                refine wpAnyH_take (i := 6) (v := .pointer (some ⟨k9, 6, none⟩)) (List.getElem?_toArray.trans rfl) (by kernel_rfl) (by kernel_rfl) (by kernel_rfl) (fun _ _ _ h => h) (Or.inl ⟨by rfl, fun w _ => by go_simp⟩) trivial ?_
                                try simp only [Act.put, List.setIfInBounds_toArray, List.set_cons_zero, List.set_cons_succ]
                                refine wpAnyH_ready (rs := [7]) (by kernel_rfl) (by simp) (AllReadyH.cons (List.getElem?_toArray.trans rfl) (fun K hK => ?_) AllReadyH.nil)
                                go_simp
                                refine hK.out _ _ trivial (fun _ => ?_)
                                try simp only [Act.put, List.setIfInBounds_toArray, List.set_cons_zero, List.set_cons_succ]
                                refine wpAnyH_done (by kernel_rfl) ?_ _
                                refine NoPanic.normal ?_
                                go_wp2_with fail
                                go_roundw
                                case rel => exact ⟨q + 1, _, by go_num, by omega, HN8.out⟩
                                case measure => (try simp [intOf]) <;> (try omega)
                              · go_simp
                                refine (two_any a v (words r6 q).1 _ HRWd.out.rf).mono ?_
                                rintro e w7 ⟨rfl, hp⟩
                                have HN7 := Lib.hid (HRWd.out.read hp)
                                have z6 := HN7.out.g6
                                have z6a := ((Upd.refl (fun _ => False) w7).alloc (.cells #[.int .i64 (words r6 q).1.word.2] 3)).cell_some z6 (fun h => h)
                                have HO7 := Lib.hid (show (w7.alloc (.cells #[.int .i64 (words r6 q).1.word.2] 3)).ownsRow w.heap.size 3 1 (.slice av q cv) q (intsV (words r6 q).2) by have h := ownsRow_upd HN7.out.ow ((Upd.refl (fun _ => False) w7).alloc (.cells #[.int .i64 (words r6 q).1.word.2] 3)) (fun _ _ h => h); change World.ownsRow _ _ _ _ _ (words r6 q).2.length _ at h; rw [words_len] at h; exact h)
                                have HSR7 := Lib.hid (ints_src Try.underlying81 (w := w7) (words r6 q).1.word.2)
                                clear hp
                                refine hK.out _ _ trivial (fun _ => ?_)
                                try simp only [Act.put, List.setIfInBounds_toArray, List.set_cons_zero, List.set_cons_succ]
                                refine wpAnyH_ready (rs := [1, 4]) (by kernel_rfl) (by simp) (AllReadyH.cons (List.getElem?_toArray.trans rfl) (fun K hK => ?_) (AllReadyH.cons (List.getElem?_toArray.trans rfl) (fun K hK => ?_) AllReadyH.nil))
                                · go_simp
                                  refine hK.out _ _ trivial (fun _ => ?_)
                                  try simp only [Act.put, List.setIfInBounds_toArray, List.set_cons_zero, List.set_cons_succ]
                                  refine wpAnyH_ready (rs := [4]) (by kernel_rfl) (by simp) (AllReadyH.cons (List.getElem?_toArray.trans rfl) (fun K hK => ?_) AllReadyH.nil)
                                  go_simp
                                  refine hK.out _ _ trivial (fun _ => ?_)
                                  try simp only [Act.put, List.setIfInBounds_toArray, List.set_cons_zero, List.set_cons_succ]
                                  refine wpAnyH_ready (rs := [5]) (by kernel_rfl) (by simp) (AllReadyH.cons (List.getElem?_toArray.trans rfl) (fun K hK => ?_) AllReadyH.nil)
                                  refine step_append_src_own _ (by rfl) _ _ 81 81 (by rfl) w.heap.size 3 i3 _ 1 8 Try.underlying81 hi3 y0 y1 y2 rfl (.slice av q cv) q (intsV (words r6 q).2) (by rfl) HO7.out _ 1 [.int .i64 (words r6 q).1.word.2] (by rfl) HSR7.out (by unfold maxLen; omega) (by omega) (by have := HN7.out.upd.size; simp; omega) ?_
                                  intro v' w8 p1 p2 p3 p4
                                  have p1' : w8.ownsRow w.heap.size 3 1 v' ((words r6 q).2.length + 1) (intsV (words r6 q).2 ++ [.int .i64 (words r6 q).1.word.2]) := by rw [words_len]; exact p1
                                  have HN8 := Lib.hid (HN7.out.push p2 p1' p3)
                                  obtain ⟨av', cv', rfl, _, _, _⟩ := own_form p1
                                  have hu8 := ((Upd.refl (fun j => (Value.slice av q cv).ownBlock = some j) w7).alloc (.cells #[.int .i64 (words r6 q).1.word.2] 3)).grown p2 (fun j h _ => h)
                                  have z8 := hu8.cell_some z6 (fun e => by have := HN7.out.ht k9 e; have := HN7.out.ha; omega)
                                  have f8 := Row.free (HN7.out.c9.upd hu8 (fun e => by have := HN7.out.ht k9 e; have := HN7.out.ha; omega)) 6
                                  clear p1 p1' p2 p3 p4 hu8
                                  refine hK.out _ _ trivial (fun _ => ?_)
                                  try simp only [Act.put, List.setIfInBounds_toArray, List.set_cons_zero, List.set_cons_succ]
                                  refine wpAnyH_take (i := 6) (v := .pointer (some ⟨k9, 6, none⟩)) (List.getElem?_toArray.trans rfl) (by kernel_rfl) (by kernel_rfl) (by kernel_rfl) (fun _ _ _ h => h) (Or.inl ⟨by rfl, fun w _ => by go_simp⟩) trivial ?_
                                  try simp only [Act.put, List.setIfInBounds_toArray, List.set_cons_zero, List.set_cons_succ]
                                  refine wpAnyH_ready (rs := [7]) (by kernel_rfl) (by simp) (AllReadyH.cons (List.getElem?_toArray.trans rfl) (fun K hK => ?_) AllReadyH.nil)
                                  go_simp
                                  refine hK.out _ _ trivial (fun _ => ?_)
                                  try simp only [Act.put, List.setIfInBounds_toArray, List.set_cons_zero, List.set_cons_succ]
                                  refine wpAnyH_done (by kernel_rfl) ?_ _
                                  refine NoPanic.normal ?_
                                  go_wp2_with fail
                                  go_roundw
                                  case rel => exact ⟨q + 1, _, by go_num, by omega, HN8.out⟩
                                  case measure => (try simp [intOf]) <;> (try omega)
                                · go_simp
                                  refine hK.out _ _ trivial (fun _ => ?_)
                                  try simp only [Act.put, List.setIfInBounds_toArray, List.set_cons_zero, List.set_cons_succ]
                                  refine wpAnyH_ready (rs := [1]) (by kernel_rfl) (by simp) (AllReadyH.cons (List.getElem?_toArray.trans rfl) (fun K hK => ?_) AllReadyH.nil)
                                  go_simp
                                  refine hK.out _ _ trivial (fun _ => ?_)
                                  try simp only [Act.put, List.setIfInBounds_toArray, List.set_cons_zero, List.set_cons_succ]
                                  refine wpAnyH_ready (rs := [5]) (by kernel_rfl) (by simp) (AllReadyH.cons (List.getElem?_toArray.trans rfl) (fun K hK => ?_) AllReadyH.nil)
                                  refine step_append_src_own _ (by rfl) _ _ 81 81 (by rfl) w.heap.size 3 i3 _ 1 8 Try.underlying81 hi3 y0 y1 y2 rfl (.slice av q cv) q (intsV (words r6 q).2) (by rfl) HO7.out _ 1 [.int .i64 (words r6 q).1.word.2] (by rfl) HSR7.out (by unfold maxLen; omega) (by omega) (by have := HN7.out.upd.size; simp; omega) ?_
                                  intro v' w8 p1 p2 p3 p4
                                  have p1' : w8.ownsRow w.heap.size 3 1 v' ((words r6 q).2.length + 1) (intsV (words r6 q).2 ++ [.int .i64 (words r6 q).1.word.2]) := by rw [words_len]; exact p1
                                  have HN8 := Lib.hid (HN7.out.push p2 p1' p3)
                                  obtain ⟨av', cv', rfl, _, _, _⟩ := own_form p1
                                  have hu8 := ((Upd.refl (fun j => (Value.slice av q cv).ownBlock = some j) w7).alloc (.cells #[.int .i64 (words r6 q).1.word.2] 3)).grown p2 (fun j h _ => h)
                                  have z8 := hu8.cell_some z6 (fun e => by have := HN7.out.ht k9 e; have := HN7.out.ha; omega)
                                  have f8 := Row.free (HN7.out.c9.upd hu8 (fun e => by have := HN7.out.ht k9 e; have := HN7.out.ha; omega)) 6
                                  clear p1 p1' p2 p3 p4 hu8
                                  refine hK.out _ _ trivial (fun _ => ?_)
                                  try simp only [Act.put, List.setIfInBounds_toArray, List.set_cons_zero, List.set_cons_succ]
                                  refine wpAnyH_take (i := 6) (v := .pointer (some ⟨k9, 6, none⟩)) (List.getElem?_toArray.trans rfl) (by kernel_rfl) (by kernel_rfl) (by kernel_rfl) (fun _ _ _ h => h) (Or.inl ⟨by rfl, fun w _ => by go_simp⟩) trivial ?_
                                  try simp only [Act.put, List.setIfInBounds_toArray, List.set_cons_zero, List.set_cons_succ]
                                  refine wpAnyH_ready (rs := [7]) (by kernel_rfl) (by simp) (AllReadyH.cons (List.getElem?_toArray.trans rfl) (fun K hK => ?_) AllReadyH.nil)
                                  go_simp
                                  refine hK.out _ _ trivial (fun _ => ?_)
                                  try simp only [Act.put, List.setIfInBounds_toArray, List.set_cons_zero, List.set_cons_succ]
                                  refine wpAnyH_done (by kernel_rfl) ?_ _
                                  refine NoPanic.normal ?_
                                  go_wp2_with fail
                                  go_roundw
                                  case rel => exact ⟨q + 1, _, by go_num, by omega, HN8.out⟩
                                  case measure => (try simp [intOf]) <;> (try omega)
                            · rw [show ((words r6 q).1.why != 0) = true by simpa using hw] at gw
                              have HE := Lib.hid (show RW w wr k6 k9 a v vt (words r6 n).1 ⟨p, op, A, B, x, y, tx, (words r6 q).2⟩ by rw [words_stuck hw n hq]; exact ho)
                              have HNW := Lib.hid (show (words r6 n).1.why = 0 → q = n by rw [words_stuck hw n hq]; exact fun h => absurd h hw)
                              clear hlt hq hw ho
                              go_wp2_with fail
                              go_meet
                              exact ⟨q, _, HE.out, HNW.out⟩
                          · have hq' : q = n := by omega
                            subst hq'
                            have f1 : ¬ ((q : Int) < (q : Int)) := by omega
                            have HE := Lib.hid ho
                            clear hlt hq ho
                            go_wp2_with fail
                            go_meet
                            exact ⟨q, _, HE.out, fun _ => rfl⟩
                      case rest =>
                        obtain ⟨q, vt, how, hqn⟩ := hcut
                        have HRW7 := Lib.hid how
                        have HQN := Lib.hid hqn
                        have HWL := Lib.hid (show (words r6 n).1.l.length ≤ 140737488355328 from how.rf.small)
                        clear how hqn HRW6
                        generalize hrF : (words r6 n).1 = rF at *
                        clear hrF
                        go_wp2_with fail
                        refine (fend_any a v rF _ HRW7.out.rf).mono ?_
                        rintro e w8 ⟨rfl, n8, rfl⟩
                        have HRW8 := Lib.hid (HRW7.out.drewN n8)
                        obtain ⟨we, hwe⟩ : ∃ we, we = wc.drewN n8 := ⟨_, rfl⟩
                        rw [← hwe] at HRW8 ⊢
                        clear hwe HRW7
                        have gw := HRW8.out.rf.get2
                        by_cases hw : rF.why = 0
                        rotate_left
                        · rw [show (rF.why != 0) = true by simpa using hw] at gw
                          rw [if_neg hw] at HONE
                          obtain ⟨f1, f2, hf⟩ : ∃ f1 f2, rF.fin = (f1, f2) := ⟨_, _, rfl⟩
                          rw [hf] at HONE ⊢
                          clear hf hw
                          by_cases e1 : f1 = 12
                          · have d1 : (f1 == 12) = true := by simp [e1]
                            have HC := Lib.hid (show (oneR l p).1 = 12 by rw [HONE.out, if_pos (.inl e1)])
                            clear e1
                            go_wp2_with (refine wpList_storeZ rfl 99 _ _ rfl HRW8.out.c6 rfl rfl rfl size99 ?cze1)
                            case cze1 =>
                            intro wz hz hu
                            have HZ := Lib.hid hz
                            have HZU := Lib.hid hu
                            clear hz hu
                            go_wp2_with fail
                            refine bodyPost_ret (results_cell2 rfl rfl HZ.out Try.underlying99 rfl size99) rfl ?_
                            exact RW.refused HRW8.out HC.out (by omega) HZU.out
                          · have d1 : (f1 == 12) = false := by simp [e1]
                            by_cases e2 : f1 = 3
                            · have d2 : (f1 == 3) = true := by simp [e2]
                              have HC := Lib.hid (show (oneR l p).1 = 12 by rw [HONE.out, if_pos (.inr e2)])
                              clear e1 e2
                              go_wp2_with (refine wpList_storeZ rfl 99 _ _ rfl HRW8.out.c6 rfl rfl rfl size99 ?cze2)
                              case cze2 =>
                              intro wz hz hu
                              have HZ := Lib.hid hz
                              have HZU := Lib.hid hu
                              clear hz hu
                              go_wp2_with fail
                              refine bodyPost_ret (results_cell2 rfl rfl HZ.out Try.underlying99 rfl size99) rfl ?_
                              exact RW.refused HRW8.out HC.out (by omega) HZU.out
                            · have d2 : (f1 == 3) = false := by simp [e2]
                              have HC := Lib.hid (show (oneR l p).1 = 10 by rw [HONE.out, if_neg (by rintro (h | h); exact e1 h; exact e2 h)])
                              clear e1 e2
                              go_wp2_with (refine wpList_storeZ rfl 99 _ _ rfl HRW8.out.c6 rfl rfl rfl size99 ?cze3)
                              case cze3 =>
                              intro wz hz hu
                              have HZ := Lib.hid hz
                              have HZU := Lib.hid hu
                              clear hz hu
                              go_wp2_with fail
                              refine bodyPost_ret (results_cell2 rfl rfl HZ.out Try.underlying99 rfl size99) rfl ?_
                              exact RW.refused HRW8.out HC.out (by omega) HZU.out
                        · rw [show (rF.why != 0) = false by simpa using hw] at gw
                          rw [if_pos hw] at HONE
                          have hq := HQN.out hw
                          subst hq
                          have HTR := Lib.hid (words_range r6 q)
                          have HTL := Lib.hid (words_len r6 q)
                          have HW0 := Lib.hid hw
                          generalize (words r6 q).2 = tos at *
                          have hpr : rF.p ≤ 140737488355328 := by have := HRW8.out.rf.le; have := HRW8.out.rf.small; omega
                          have hLm : tos.length ≤ 255 := by have := HTL.out; omega
                          clear hw HQN HWL
                          obtain ⟨av, cv, rfl, hcv, hcv2, hav⟩ := own_form HRW8.out.ow
                          have HAV := Lib.hid hav
                          clear hav
                          go_wp2_with fail
                          go_loopw [21] (fun j wr => ∃ z : Nat, j = .int .i64 z ∧ z ≤ tos.length ∧ RW w wr k6 k9 a v (.slice av tos.length cv) rF ⟨p, op, A, B, x, y, tx, shift tos (rF.p : Int) z⟩) (fun j _ => tos.length - (intOf j).toNat)
                          case atStart => exact ⟨0, rfl, by omega, by rw [shift_zero]; exact HRW8.out⟩
                          case round =>
                            clear gw
                            obtain ⟨q, rfl, hq, ho⟩ := hrel
                            have HO := Lib.hid ho
                            have ga := HO.out.rf.get1 HW0.out
                            have z6 := HO.out.g6
                            by_cases hlq : q < tos.length
                            · obtain ⟨g, rfl⟩ := HAV.out (show 0 < tos.length by omega)
                              have HOd := Lib.hid (HO.out.keep ((Upd.refl (fun _ => False) wr).drew))
                              have gq := own_int' ho.ow (shift_get (z := (rF.p : Int)) hlq)
                              have fq := own_free ho.ow q
                              have hrg := HTR.out _ (List.getElem_mem hlq)
                              have HSS := Lib.hid (shift_set (l := tos) (z := (rF.p : Int)) hlq)
                              obtain ⟨t, ht⟩ : ∃ t, t = tos[q] := ⟨_, rfl⟩
                              rw [← ht] at gq hrg HSS
                              have HWR := Lib.hid (show IntKind.i64.wrap (t + (rF.p : Int)) = t + (rF.p : Int) from IntWalk.i64_in _ (by omega))
                              have k0 : (0 : Int) ≤ (q : Int) := by omega
                              have k1 : (q : Int) < (tos.length : Int) := by omega
                              have k2 : decide (q < tos.length) = true := by simp [hlq]
                              have k3 : q + 1 ≤ tos.length := by omega
                              have HPL := Lib.hid (HOd.out.place q (by rw [show (IV.tos ⟨p, op, A, B, x, y, tx, shift tos (rF.p : Int) q⟩).length = tos.length from shift_len tos (rF.p : Int) q]; exact hlq) (t + (rF.p : Int)))
                              clear ht ho hlq hq hrg
                              go_upto_region 44 with fail
                              refine wp_region_noPanic ?_
                              have hS0 : wr.drew.cell? ⟨k9, 6, none⟩ = some (.slice (some ⟨g, 0, none⟩) tos.length cv) ∧ wr.drew.cell? ⟨a, 1, none⟩ = some (.int .i64 (rF.p : Int)) := ⟨z6, ga⟩
                              refine wp_region_held (S := fun wx => wx.cell? ⟨k9, 6, none⟩ = some (.slice (some ⟨g, 0, none⟩) tos.length cv) ∧ wx.cell? ⟨a, 1, none⟩ = some (.int .i64 (rF.p : Int))) (by kernel_rfl) ?_
                              refine wpAnyH_take (i := 0) (v := .pointer (some ⟨k9, 6, none⟩)) (List.getElem?_toArray.trans rfl) (by kernel_rfl) (by kernel_rfl) (by kernel_rfl) (fun _ _ _ h => h) (Or.inl ⟨by rfl, fun w _ => by go_simp⟩) hS0 ?_
                              try simp only [Act.put, List.setIfInBounds_toArray, List.set_cons_zero, List.set_cons_succ]
                              refine wpAnyH_take (i := 1) (v := .slice (some ⟨g, 0, none⟩) tos.length cv) (List.getElem?_toArray.trans rfl) (by kernel_rfl) (by kernel_rfl) (by kernel_rfl) (fun _ _ _ h => h) (Or.inl ⟨by rfl, fun wx hx => by have h1 := hx.1; have h2 := hx.2; go_simp⟩) hS0 ?_
                              try simp only [Act.put, List.setIfInBounds_toArray, List.set_cons_zero, List.set_cons_succ]
                              refine wpAnyH_take (i := 2) (v := .int .i64 (q : Int)) (List.getElem?_toArray.trans rfl) (by kernel_rfl) (by kernel_rfl) (by kernel_rfl) (fun _ _ _ h => h) (Or.inl ⟨by rfl, fun w _ => by rfl⟩) hS0 ?_
                              try simp only [Act.put, List.setIfInBounds_toArray, List.set_cons_zero, List.set_cons_succ]
                              refine wpAnyH_take (i := 3) (v := .pointer (some ⟨k9, 6, none⟩)) (List.getElem?_toArray.trans rfl) (by kernel_rfl) (by kernel_rfl) (by kernel_rfl) (fun _ _ _ h => h) (Or.inl ⟨by rfl, fun w _ => by go_simp⟩) hS0 ?_
                              try simp only [Act.put, List.setIfInBounds_toArray, List.set_cons_zero, List.set_cons_succ]
                              refine wpAnyH_take (i := 4) (v := .slice (some ⟨g, 0, none⟩) tos.length cv) (List.getElem?_toArray.trans rfl) (by kernel_rfl) (by kernel_rfl) (by kernel_rfl) (fun _ _ _ h => h) (Or.inl ⟨by rfl, fun wx hx => by have h1 := hx.1; have h2 := hx.2; go_simp⟩) hS0 ?_
                              try simp only [Act.put, List.setIfInBounds_toArray, List.set_cons_zero, List.set_cons_succ]
                              refine wpAnyH_take (i := 5) (v := .int .i64 (q : Int)) (List.getElem?_toArray.trans rfl) (by kernel_rfl) (by kernel_rfl) (by kernel_rfl) (fun _ _ _ h => h) (Or.inl ⟨by rfl, fun w _ => by rfl⟩) hS0 ?_
                              try simp only [Act.put, List.setIfInBounds_toArray, List.set_cons_zero, List.set_cons_succ]
                              refine wpAnyH_take (i := 6) (v := .pointer (some ⟨g, q, none⟩)) (List.getElem?_toArray.trans rfl) (by kernel_rfl) (by kernel_rfl) (by kernel_rfl) (fun _ _ _ h => h) (Or.inl ⟨by rfl, fun w _ => by go_simp⟩) hS0 ?_
                              try simp only [Act.put, List.setIfInBounds_toArray, List.set_cons_zero, List.set_cons_succ]
                              refine wpAnyH_take (i := 8) (v := .pointer (some ⟨a, 0, none⟩)) (List.getElem?_toArray.trans rfl) (by kernel_rfl) (by kernel_rfl) (by kernel_rfl) (fun _ _ _ h => h) (Or.inl ⟨by rfl, fun w _ => by rfl⟩) hS0 ?_
                              try simp only [Act.put, List.setIfInBounds_toArray, List.set_cons_zero, List.set_cons_succ]
                              refine wpAnyH_take (i := 9) (v := .pointer (some ⟨a, 0, none⟩)) (List.getElem?_toArray.trans rfl) (by kernel_rfl) (by kernel_rfl) (by kernel_rfl) (fun _ _ _ h => h) (Or.inl ⟨by rfl, fun w _ => by go_simp⟩) hS0 ?_
                              try simp only [Act.put, List.setIfInBounds_toArray, List.set_cons_zero, List.set_cons_succ]
                              refine wpAnyH_take (i := 10) (v := .pointer (some ⟨a, 1, none⟩)) (List.getElem?_toArray.trans rfl) (by kernel_rfl) (by kernel_rfl) (by kernel_rfl) (fun _ _ _ h => h) (Or.inl ⟨by rfl, fun w _ => by go_simp⟩) hS0 ?_
                              try simp only [Act.put, List.setIfInBounds_toArray, List.set_cons_zero, List.set_cons_succ]
                              refine wpAnyH_take (i := 11) (v := .int .i64 (rF.p : Int)) (List.getElem?_toArray.trans rfl) (by kernel_rfl) (by kernel_rfl) (by kernel_rfl) (fun _ _ _ h => h) (Or.inl ⟨by rfl, fun wx hx => by have h1 := hx.1; have h2 := hx.2; go_simp⟩) hS0 ?_
                              try simp only [Act.put, List.setIfInBounds_toArray, List.set_cons_zero, List.set_cons_succ]
                              refine wpAnyH_ready (rs := [7]) (by kernel_rfl) (by simp) (AllReadyH.cons (List.getElem?_toArray.trans rfl) (fun K hK => ?_) AllReadyH.nil)
                              go_simp
                              refine hK.out _ _ hS0 (fun _ => ?_)
                              try simp only [Act.put, List.setIfInBounds_toArray, List.set_cons_zero, List.set_cons_succ]
                              refine wpAnyH_take (i := 12) (v := .int .i64 (t + (rF.p : Int))) (List.getElem?_toArray.trans rfl) (by kernel_rfl) (by kernel_rfl) (by kernel_rfl) (fun _ _ _ h => h) (Or.inl ⟨by rfl, fun w _ => by have hwr := HWR.out; go_simp⟩) hS0 ?_
                              try simp only [Act.put, List.setIfInBounds_toArray, List.set_cons_zero, List.set_cons_succ]
                              refine wpAnyH_take (i := 13) (v := .pointer (some ⟨g, q, none⟩)) (List.getElem?_toArray.trans rfl) (by kernel_rfl) (by kernel_rfl) (by kernel_rfl) (fun _ _ _ h => h) (Or.inl ⟨by rfl, fun w _ => by go_simp⟩) hS0 ?_
                              try simp only [Act.put, List.setIfInBounds_toArray, List.set_cons_zero, List.set_cons_succ]
                              refine wpAnyH_ready (rs := [14]) (by kernel_rfl) (by simp) (AllReadyH.cons (List.getElem?_toArray.trans rfl) (fun K hK => ?_) AllReadyH.nil)
                              go_simp
                              have hS1 : (wr.drew.setCell ⟨g, q, none⟩ (.int .i64 (t + (rF.p : Int)))).cell? ⟨k9, 6, none⟩ = some (.slice (some ⟨g, 0, none⟩) tos.length cv) ∧ (wr.drew.setCell ⟨g, q, none⟩ (.int .i64 (t + (rF.p : Int)))).cell? ⟨a, 1, none⟩ = some (.int .i64 (rF.p : Int)) := ⟨HPL.out.g6, HPL.out.rf.get1 HW0.out⟩
                              refine hK.out _ _ hS1 (fun _ => ?_)
                              try simp only [Act.put, List.setIfInBounds_toArray, List.set_cons_zero, List.set_cons_succ]
                              refine wpAnyH_done (by kernel_rfl) ?_ _
                              refine NoPanic.normal ?_
                              go_wp2_with fail
                              go_roundw
                              case rel =>
                                refine ⟨q + 1, by go_num, k3, ?_⟩
                                have := HPL.out
                                simp only [HSS.out] at this
                                exact this
                              case measure => (try simp [intOf]) <;> (try omega)
                            · have hq' : q = tos.length := by omega
                              subst hq'
                              have k1 : ¬ ((tos.length : Int) < (tos.length : Int)) := by omega
                              rw [shift_full] at HO
                              clear hlq hq ho
                              have HOd := Lib.hid (HO.out.keep ((Upd.refl (fun _ => False) wr).drew))
                              have c0 := HO.out.c6.get (i := 0) rfl
                              have c1 := HO.out.c6.get (i := 1) rfl
                              have c2 := HO.out.c6.get (i := 2) rfl
                              have c3 := HO.out.c6.get (i := 3) rfl
                              have c4 := HO.out.c6.get (i := 4) rfl
                              have c5 := HO.out.c6.get (i := 5) rfl
                              have c6 := HO.out.c6.get (i := 6) rfl
                              have z0 := HO.out.c6.free 0
                              have z1 := HO.out.c6.free 1
                              have z2 := HO.out.c6.free 2
                              have z3 := HO.out.c6.free 3
                              have z4 := HO.out.c6.free 4
                              have z5 := HO.out.c6.free 5
                              have z6 := HO.out.c6.free 6
                              go_upto_region 45 with fail
                              refine wp_region_noPanic ?_
                              have hS0 : Row wr.drew k9 99 [.int .i64 (p : Int), .int .i64 op, .int .i64 A, .int .i64 B, .complex .f64 (fl x) (fl y), .string (strOf tx), .slice av tos.length cv] ∧ wr.drew.cell? ⟨a, 1, none⟩ = some (.int .i64 (rF.p : Int)) := ⟨HOd.out.c9, ga⟩
                              refine wp_region_held (S := fun wx => Row wx k9 99 [.int .i64 (p : Int), .int .i64 op, .int .i64 A, .int .i64 B, .complex .f64 (fl x) (fl y), .string (strOf tx), .slice av tos.length cv] ∧ wx.cell? ⟨a, 1, none⟩ = some (.int .i64 (rF.p : Int))) (by kernel_rfl) ?_
                              refine wpAnyH_take (i := 0) (v := .agg ([.int .i64 (p : Int), .int .i64 op, .int .i64 A, .int .i64 B, .complex .f64 (fl x) (fl y), .string (strOf tx), .slice av tos.length cv] : List Value).toArray) (List.getElem?_toArray.trans rfl) (by kernel_rfl) (by kernel_rfl) (by kernel_rfl) (fun _ _ _ h => h) (yieldsIf_load_mid (by rfl) 99 _ rfl k9 0 rfl [.int .i64 (p : Int), .int .i64 op, .int .i64 A, .int .i64 B, .complex .f64 (fl x) (fl y), .string (strOf tx), .slice av tos.length cv] _ (fun wx h => h.1.range) Try.underlying99 rfl size99) hS0 ?_
                              try simp only [Act.put, List.setIfInBounds_toArray, List.set_cons_zero, List.set_cons_succ]
                              refine wpAnyH_take (i := 1) (v := .pointer (some ⟨a, 0, none⟩)) (List.getElem?_toArray.trans rfl) (by kernel_rfl) (by kernel_rfl) (by kernel_rfl) (fun _ _ _ h => h) (Or.inl ⟨by rfl, fun w _ => by rfl⟩) hS0 ?_
                              try simp only [Act.put, List.setIfInBounds_toArray, List.set_cons_zero, List.set_cons_succ]
                              refine wpAnyH_take (i := 2) (v := .pointer (some ⟨a, 0, none⟩)) (List.getElem?_toArray.trans rfl) (by kernel_rfl) (by kernel_rfl) (by kernel_rfl) (fun _ _ _ h => h) (Or.inl ⟨by rfl, fun w _ => by go_simp⟩) hS0 ?_
                              try simp only [Act.put, List.setIfInBounds_toArray, List.set_cons_zero, List.set_cons_succ]
                              refine wpAnyH_take (i := 3) (v := .pointer (some ⟨a, 1, none⟩)) (List.getElem?_toArray.trans rfl) (by kernel_rfl) (by kernel_rfl) (by kernel_rfl) (fun _ _ _ h => h) (Or.inl ⟨by rfl, fun w _ => by go_simp⟩) hS0 ?_
                              try simp only [Act.put, List.setIfInBounds_toArray, List.set_cons_zero, List.set_cons_succ]
                              refine wpAnyH_take (i := 4) (v := .int .i64 (rF.p : Int)) (List.getElem?_toArray.trans rfl) (by kernel_rfl) (by kernel_rfl) (by kernel_rfl) (fun _ _ _ h => h) (Or.inl ⟨by rfl, fun wx hx => by have h2 := hx.2; go_simp⟩) hS0 ?_
                              try simp only [Act.put, List.setIfInBounds_toArray, List.set_cons_zero, List.set_cons_succ]
                              refine wpAnyH_ready (rs := [5]) (by kernel_rfl) (by simp) (AllReadyH.cons (List.getElem?_toArray.trans rfl) (fun K hK => ?_) AllReadyH.nil)
                              go_simp
                              have HK6 := Lib.hid (store7 HO.out.c6 rfl [.int .i64 (p : Int), .int .i64 op, .int .i64 A, .int .i64 B, .complex .f64 (fl x) (fl y), .string (strOf tx), .slice av tos.length cv] _ _ _ _ _ _ _ rfl)
                              have hud : ∀ x : World, Upd (fun _ => False) x x.drew := fun x => (Upd.refl _ x).drew
                              have hS1a : Row _ k9 99 [.int .i64 (p : Int), .int .i64 op, .int .i64 A, .int .i64 B, .complex .f64 (fl x) (fl y), .string (strOf tx), .slice av tos.length cv] := (HO.out.c9.upd HK6.out.2 (fun e => by have := HO.out.h9; omega)).upd (hud _) (fun h => h)
                              have hS1b := (hud _).cell_some ((HO.out.rf.upd HK6.out.2 (fun k hk e => by subst e; rcases hk with rfl | hk; (have := HO.out.h9; have := HO.out.ha; omega); (have := HO.out.hv _ hk; have := HO.out.h6; omega))).get1 HW0.out) (fun h => h)
                              have HK61 := Lib.hid (HK6.out.1.upd (hud _) (fun h => h))
                              have HUP := Lib.hid ((HO.out.upd.trans HK6.out.2 (fun j hj e => by have := HO.out.h6; omega)).trans' (hud _))
                              have HOW := Lib.hid (ownsRow_upd (ownsRow_upd HO.out.ow HK6.out.2 (fun j hj e => by have := HO.out.ht j hj; have := HO.out.ha; have := HO.out.h9; omega)) (hud _) (fun _ _ h => h))
                              refine hK.out _ _ ?_ (fun hS1 => ?_)
                              · exact And.intro hS1a hS1b
                              clear hS1a hS1b HK6 hud
                              try simp only [Act.put, List.setIfInBounds_toArray, List.set_cons_zero, List.set_cons_succ]
                              refine wpAnyH_take (i := 6) (v := .int .i64 (rF.p : Int)) (List.getElem?_toArray.trans rfl) (by kernel_rfl) (by kernel_rfl) (by kernel_rfl) (fun _ _ _ h => h) (Or.inl ⟨by rfl, fun w _ => by rfl⟩) hS1 ?_
                              try simp only [Act.put, List.setIfInBounds_toArray, List.set_cons_zero, List.set_cons_succ]
                              refine wpAnyH_take (i := 7) (v := .int .i64 0) (List.getElem?_toArray.trans rfl) (by kernel_rfl) (by kernel_rfl) (by kernel_rfl) (fun _ _ _ h => h) (Or.inl ⟨by rfl, fun w _ => by rfl⟩) hS1 ?_
                              try simp only [Act.put, List.setIfInBounds_toArray, List.set_cons_zero, List.set_cons_succ]
                              refine wpAnyH_done (by kernel_rfl) ?_ _
                              refine NoPanic.normal ?_
                              go_wp2_with fail
                              refine bodyPost_ret (results_cell2 rfl rfl HK61.out Try.underlying99 rfl size99) rfl ?_
                              refine ⟨HUP.out, .inl ⟨by rw [HONE.out], .slice av tos.length cv, ?_, ?_⟩⟩
                              · rw [HONE.out]
                                rfl
                              · rw [HONE.out]
                                exact HOW.out
end Go.Proofs.Ytbpeoclhabgcgaa
