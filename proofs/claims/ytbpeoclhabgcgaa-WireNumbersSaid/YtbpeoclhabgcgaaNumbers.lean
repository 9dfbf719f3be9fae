import Derived.Test.YtbpeoclhabgcgaaTrip
namespace Go.Proofs.Ytbpeoclhabgcgaa
open Go.RowKit
set_option linter.unusedVariables false
set_option linter.unusedSimpArgs false

/-- A reader whose blocks lie from lo on and below hi. -/
structure RdIn (w : World) (a : Nat) (v : Value) (r : RS) (lo hi : Nat) : Prop where
  rd : Rd w a v r
  into : ∀ k, RdS a v k → lo ≤ k ∧ k < hi
theorem RdIn.made {w w' : World} {a : Nat} {v : Value} {r : RS} {lo : Nat} (h : Rd w' a v r) (h1 : lo ≤ w.heap.size) (h2 : w.heap.size ≤ a) (h3 : ∀ k, v.ownBlock = some k → w.heap.size ≤ k) : RdIn w' a v r lo w'.heap.size :=
  ⟨h, fun k hk => ⟨by rcases hk with rfl | hk; omega; have := h3 k hk; omega, h.in k hk⟩⟩
theorem RdIn.keep {w w' : World} {a : Nat} {v : Value} {r : RS} {lo hi : Nat} (h : RdIn w a v r lo hi) (hu : Upd (fun _ => False) w w') : RdIn w' a v r lo hi := ⟨h.rd.upd hu (fun _ _ _ h => h), h.into⟩
theorem RdIn.beside {w w' : World} {a b : Nat} {v u : Value} {r s : RS} {lo hi lo' hi' : Nat} (h : RdIn w a v r lo hi) (hb : RdIn w b u s lo' hi') (hd : hi ≤ lo' ∨ hi' ≤ lo) (hu : Upd (fun k => k = b) w w') : RdIn w' a v r lo hi :=
  ⟨h.rd.upd hu (fun k _ hk e => by have h1 := h.into k hk; have h2 := hb.into b (.inl rfl); omega), h.into⟩
theorem RdIn.step {w w' : World} {a : Nat} {v : Value} {r s : RS} {lo hi : Nat} (h : RdIn w a v r lo hi) (hp : RdPost a v s w w') : RdIn w' a v s lo hi := ⟨hp.1, h.into⟩
theorem RdIn.new {w0 w w' : World} {a : Nat} {v : Value} {r : RS} {lo hi : Nat} (h : RdIn w a v r lo hi) (h0 : w0.heap.size ≤ lo) (hu : Upd (fun _ => False) w0 w) (hp : Upd (fun k => k = a) w w') : Upd (fun _ => False) w0 w' :=
  hu.new (fun k (e : k = a) => by have := h.into a (.inl rfl); omega) hp

set_option maxHeartbeats 4000000 in
set_option maxRecDepth 100000 in
theorem numbers_any (w : World) : Calls Try.prog 7 #[] w (TrueP w) := by
  go_enter Try.func7, Try.ntmps7
  have HU0 := Lib.hid (Upd.refl (fun _ => False) w)
  go_wp2_with fail
  have hb : Bytes (w.alloc (.cells #[.int .u8 10] 5)) (.slice (some ⟨w.heap.size, 0, none⟩) 1 1) [10] :=
    Bytes_own (base := 0) (World.ownsRow_lit w #[.int .u8 10] 1 (Nat.zero_le _) (by simp [maxLen]) rfl)
  refine (newReader_any _ _ _ hb (by simp)).mono ?_
  rintro e w1 ⟨r, vr, rfl, hb1, hb2, hr, hu2⟩
  have hk : Upd (fun _ => False) w w1 := ((Upd.refl (fun _ => False) w).alloc _).trans' hu2
  have Hr := Lib.hid (RdIn.made (lo := w.heap.size) hr (by simp) hb1 hb2)
  have HL0 := Lib.hid hk.size
  have HU0 := Lib.hid (HU0.out.trans' hk)
  clear hb hb1 hb2 hr hu2 hk
  go_wp2_with fail
  have hb : Bytes (w1.alloc (.cells #[.int .u8 2, .int .u8 97] 5)) (.slice (some ⟨w1.heap.size, 0, none⟩) 2 2) [2, 97] :=
    Bytes_own (base := 0) (World.ownsRow_lit w1 #[.int .u8 2, .int .u8 97] 2 (Nat.zero_le _) (by simp [maxLen]) rfl)
  refine (newReader_any _ _ _ hb (by simp)).mono ?_
  rintro e w2 ⟨s, vs, rfl, hb1, hb2, hr, hu2⟩
  have hk : Upd (fun _ => False) w1 w2 := ((Upd.refl (fun _ => False) w1).alloc _).trans' hu2
  have Hs := Lib.hid (RdIn.made (lo := w1.heap.size) hr (by simp) hb1 hb2)
  have Hr := Lib.hid (Hr.out.keep hk)
  have HL1 := Lib.hid hk.size
  have HU0 := Lib.hid (HU0.out.trans' hk)
  clear hb hb1 hb2 hr hu2 hk
  go_wp2_with fail
  have hb : Bytes (w2.alloc (.cells #[.int .u8 255, .int .u8 255, .int .u8 255, .int .u8 255, .int .u8 255, .int .u8 255, .int .u8 255, .int .u8 255, .int .u8 255, .int .u8 255, .int .u8 1] 5)) (.slice (some ⟨w2.heap.size, 0, none⟩) 11 11) [255, 255, 255, 255, 255, 255, 255, 255, 255, 255, 1] :=
    Bytes_own (base := 0) (World.ownsRow_lit w2 #[.int .u8 255, .int .u8 255, .int .u8 255, .int .u8 255, .int .u8 255, .int .u8 255, .int .u8 255, .int .u8 255, .int .u8 255, .int .u8 255, .int .u8 1] 11 (Nat.zero_le _) (by simp [maxLen]) rfl)
  refine (newReader_any _ _ _ hb (by simp)).mono ?_
  rintro e w3 ⟨t, vt, rfl, hb1, hb2, hr, hu2⟩
  have hk : Upd (fun _ => False) w2 w3 := ((Upd.refl (fun _ => False) w2).alloc _).trans' hu2
  have Ht := Lib.hid (RdIn.made (lo := w2.heap.size) hr (by simp) hb1 hb2)
  have Hr := Lib.hid (Hr.out.keep hk)
  have Hs := Lib.hid (Hs.out.keep hk)
  have HL2 := Lib.hid hk.size
  have HU0 := Lib.hid (HU0.out.trans' hk)
  clear hb hb1 hb2 hr hu2 hk
  go_wp2_with fail
  have hb : Bytes (w3.alloc (.cells #[.int .u8 255, .int .u8 255, .int .u8 255, .int .u8 255, .int .u8 255, .int .u8 255, .int .u8 255, .int .u8 255, .int .u8 255, .int .u8 1] 5)) (.slice (some ⟨w3.heap.size, 0, none⟩) 10 10) [255, 255, 255, 255, 255, 255, 255, 255, 255, 1] :=
    Bytes_own (base := 0) (World.ownsRow_lit w3 #[.int .u8 255, .int .u8 255, .int .u8 255, .int .u8 255, .int .u8 255, .int .u8 255, .int .u8 255, .int .u8 255, .int .u8 255, .int .u8 1] 10 (Nat.zero_le _) (by simp [maxLen]) rfl)
  refine (newReader_any _ _ _ hb (by simp)).mono ?_
  rintro e w4 ⟨u, vu, rfl, hb1, hb2, hr, hu2⟩
  have hk : Upd (fun _ => False) w3 w4 := ((Upd.refl (fun _ => False) w3).alloc _).trans' hu2
  have Hu := Lib.hid (RdIn.made (lo := w3.heap.size) hr (by simp) hb1 hb2)
  have Hr := Lib.hid (Hr.out.keep hk)
  have Hs := Lib.hid (Hs.out.keep hk)
  have Ht := Lib.hid (Ht.out.keep hk)
  have HL3 := Lib.hid hk.size
  have HU0 := Lib.hid (HU0.out.trans' hk)
  clear hb hb1 hb2 hr hu2 hk
  go_wp2_with fail
  have hb : Bytes (w4.alloc (.cells #[.int .u8 0, .int .u8 7] 5)) (.slice (some ⟨w4.heap.size, 0, none⟩) 2 2) [0, 7] :=
    Bytes_own (base := 0) (World.ownsRow_lit w4 #[.int .u8 0, .int .u8 7] 2 (Nat.zero_le _) (by simp [maxLen]) rfl)
  refine (newReader_any _ _ _ hb (by simp)).mono ?_
  rintro e w5 ⟨v, vv, rfl, hb1, hb2, hr, hu2⟩
  have hk : Upd (fun _ => False) w4 w5 := ((Upd.refl (fun _ => False) w4).alloc _).trans' hu2
  have Hv := Lib.hid (RdIn.made (lo := w4.heap.size) hr (by simp) hb1 hb2)
  have Hr := Lib.hid (Hr.out.keep hk)
  have Hs := Lib.hid (Hs.out.keep hk)
  have Ht := Lib.hid (Ht.out.keep hk)
  have Hu := Lib.hid (Hu.out.keep hk)
  have HL4 := Lib.hid hk.size
  have HU0 := Lib.hid (HU0.out.trans' hk)
  clear hb hb1 hb2 hr hu2 hk
  go_wp2_with fail
  have hb : Bytes (w5.alloc (.cells #[.int .u8 255, .int .u8 255, .int .u8 255, .int .u8 255, .int .u8 255, .int .u8 255, .int .u8 255, .int .u8 255, .int .u8 255, .int .u8 2] 5)) (.slice (some ⟨w5.heap.size, 0, none⟩) 10 10) [255, 255, 255, 255, 255, 255, 255, 255, 255, 2] :=
    Bytes_own (base := 0) (World.ownsRow_lit w5 #[.int .u8 255, .int .u8 255, .int .u8 255, .int .u8 255, .int .u8 255, .int .u8 255, .int .u8 255, .int .u8 255, .int .u8 255, .int .u8 2] 10 (Nat.zero_le _) (by simp [maxLen]) rfl)
  refine (newReader_any _ _ _ hb (by simp)).mono ?_
  rintro e w6 ⟨g, vg, rfl, hb1, hb2, hr, hu2⟩
  have hk : Upd (fun _ => False) w5 w6 := ((Upd.refl (fun _ => False) w5).alloc _).trans' hu2
  have Hg := Lib.hid (RdIn.made (lo := w5.heap.size) hr (by simp) hb1 hb2)
  have Hr := Lib.hid (Hr.out.keep hk)
  have Hs := Lib.hid (Hs.out.keep hk)
  have Ht := Lib.hid (Ht.out.keep hk)
  have Hu := Lib.hid (Hu.out.keep hk)
  have Hv := Lib.hid (Hv.out.keep hk)
  have HL5 := Lib.hid hk.size
  have HU0 := Lib.hid (HU0.out.trans' hk)
  clear hb hb1 hb2 hr hu2 hk
  go_wp2_with fail
  refine (rnum_any _ _ _ 18446744073709551615 _ Hg.out.rd).mono ?_
  intro e w7 hp
  have ht : RS.number ⟨[255, 255, 255, 255, 255, 255, 255, 255, 255, 2], 0, 0, 0⟩ 18446744073709551615 = (⟨[255, 255, 255, 255, 255, 255, 255, 255, 255, 2], 0, 12, 0⟩, 0) := by kernel_rfl
  unfold RNumP at hp
  rw [ht] at hp
  obtain ⟨rfl, hp2⟩ := hp
  clear ht
  have H0 := Hg
  have Hr := Lib.hid (Hr.out.beside H0.out (.inl (by have := HL1.out; have := HL2.out; have := HL3.out; have := HL4.out; omega)) hp2.2)
  have Hs := Lib.hid (Hs.out.beside H0.out (.inl (by have := HL2.out; have := HL3.out; have := HL4.out; omega)) hp2.2)
  have Ht := Lib.hid (Ht.out.beside H0.out (.inl (by have := HL3.out; have := HL4.out; omega)) hp2.2)
  have Hu := Lib.hid (Hu.out.beside H0.out (.inl (by have := HL4.out; omega)) hp2.2)
  have Hv := Lib.hid (Hv.out.beside H0.out (.inl (Nat.le_refl _)) hp2.2)
  have HU0 := Lib.hid (H0.out.new (by have := HL0.out; have := HL1.out; have := HL2.out; have := HL3.out; have := HL4.out; omega) HU0.out hp2.2)
  have Hg := Lib.hid (H0.out.step hp2)
  clear hp2 H0
  go_wp2_with fail
  refine (rend_any _ _ _ _ Hg.out.rd).mono ?_
  intro e w8 hp
  rw [show RS.fin ⟨[255, 255, 255, 255, 255, 255, 255, 255, 255, 2], 0, 12, 0⟩ = (12, 0) from rfl] at hp
  obtain ⟨rfl, n8, hw⟩ := hp
  have hk : Upd (fun _ => False) w7 w8 := by rw [hw]; exact (Upd.refl (fun _ => False) w7).drewN _
  have Hr := Lib.hid (Hr.out.keep hk)
  have Hs := Lib.hid (Hs.out.keep hk)
  have Ht := Lib.hid (Ht.out.keep hk)
  have Hu := Lib.hid (Hu.out.keep hk)
  have Hv := Lib.hid (Hv.out.keep hk)
  have Hg := Lib.hid (Hg.out.keep hk)
  have HU0 := Lib.hid (HU0.out.trans' hk)
  clear hw hk
  clear Hg
  go_wp2_with fail
  refine (rnum_any _ _ _ 9 _ Hr.out.rd).mono ?_
  intro e w9 hp
  have ht : RS.number ⟨[10], 0, 0, 0⟩ 9 = (⟨[10], 0, 3, 0⟩, 0) := by kernel_rfl
  unfold RNumP at hp
  rw [ht] at hp
  obtain ⟨rfl, hp2⟩ := hp
  clear ht
  have H0 := Hr
  have Hs := Lib.hid (Hs.out.beside H0.out (.inr (Nat.le_refl _)) hp2.2)
  have Ht := Lib.hid (Ht.out.beside H0.out (.inr (by have := HL1.out; omega)) hp2.2)
  have Hu := Lib.hid (Hu.out.beside H0.out (.inr (by have := HL1.out; have := HL2.out; omega)) hp2.2)
  have Hv := Lib.hid (Hv.out.beside H0.out (.inr (by have := HL1.out; have := HL2.out; have := HL3.out; omega)) hp2.2)
  have HU0 := Lib.hid (H0.out.new (by  omega) HU0.out hp2.2)
  have Hr := Lib.hid (H0.out.step hp2)
  clear hp2 H0
  go_wp2_with fail
  refine (rend_any _ _ _ _ Hr.out.rd).mono ?_
  intro e w10 hp
  rw [show RS.fin ⟨[10], 0, 3, 0⟩ = (3, 0) from rfl] at hp
  obtain ⟨rfl, n10, hw⟩ := hp
  have hk : Upd (fun _ => False) w9 w10 := by rw [hw]; exact (Upd.refl (fun _ => False) w9).drewN _
  have Hr := Lib.hid (Hr.out.keep hk)
  have Hs := Lib.hid (Hs.out.keep hk)
  have Ht := Lib.hid (Ht.out.keep hk)
  have Hu := Lib.hid (Hu.out.keep hk)
  have Hv := Lib.hid (Hv.out.keep hk)
  have HU0 := Lib.hid (HU0.out.trans' hk)
  clear hw hk
  clear Hr
  go_wp2_with fail
  refine (rtext_any _ _ _ 5 _ Hs.out.rd (by omega)).mono ?_
  intro e w11 hp
  have ht : RS.text ⟨[2, 97], 0, 0, 0⟩ 5 = (⟨[2, 97], 1, 10, 2⟩, []) := by kernel_rfl
  unfold TextP at hp
  rw [ht] at hp
  obtain ⟨rfl, hp2⟩ := hp
  clear ht
  have H0 := Hs
  have Ht := Lib.hid (Ht.out.beside H0.out (.inr (Nat.le_refl _)) hp2.2)
  have Hu := Lib.hid (Hu.out.beside H0.out (.inr (by have := HL2.out; omega)) hp2.2)
  have Hv := Lib.hid (Hv.out.beside H0.out (.inr (by have := HL2.out; have := HL3.out; omega)) hp2.2)
  have HU0 := Lib.hid (H0.out.new (by have := HL0.out; omega) HU0.out hp2.2)
  have Hs := Lib.hid (H0.out.step hp2)
  clear hp2 H0
  go_wp2_with fail
  refine (rend_any _ _ _ _ Hs.out.rd).mono ?_
  intro e w12 hp
  rw [show RS.fin ⟨[2, 97], 1, 10, 2⟩ = (10, 2) from rfl] at hp
  obtain ⟨rfl, n12, hw⟩ := hp
  have hk : Upd (fun _ => False) w11 w12 := by rw [hw]; exact (Upd.refl (fun _ => False) w11).drewN _
  have Hs := Lib.hid (Hs.out.keep hk)
  have Ht := Lib.hid (Ht.out.keep hk)
  have Hu := Lib.hid (Hu.out.keep hk)
  have Hv := Lib.hid (Hv.out.keep hk)
  have HU0 := Lib.hid (HU0.out.trans' hk)
  clear hw hk
  clear Hs
  go_wp2_with fail
  refine (rnum_any _ _ _ 9223372036854775808 _ Ht.out.rd).mono ?_
  intro e w13 hp
  have ht : RS.number ⟨[255, 255, 255, 255, 255, 255, 255, 255, 255, 255, 1], 0, 0, 0⟩ 9223372036854775808 = (⟨[255, 255, 255, 255, 255, 255, 255, 255, 255, 255, 1], 0, 12, 0⟩, 0) := by kernel_rfl
  unfold RNumP at hp
  rw [ht] at hp
  obtain ⟨rfl, hp2⟩ := hp
  clear ht
  have H0 := Ht
  have Hu := Lib.hid (Hu.out.beside H0.out (.inr (Nat.le_refl _)) hp2.2)
  have Hv := Lib.hid (Hv.out.beside H0.out (.inr (by have := HL3.out; omega)) hp2.2)
  have HU0 := Lib.hid (H0.out.new (by have := HL0.out; have := HL1.out; omega) HU0.out hp2.2)
  have Ht := Lib.hid (H0.out.step hp2)
  clear hp2 H0
  go_wp2_with fail
  refine (rend_any _ _ _ _ Ht.out.rd).mono ?_
  intro e w14 hp
  rw [show RS.fin ⟨[255, 255, 255, 255, 255, 255, 255, 255, 255, 255, 1], 0, 12, 0⟩ = (12, 0) from rfl] at hp
  obtain ⟨rfl, n14, hw⟩ := hp
  have hk : Upd (fun _ => False) w13 w14 := by rw [hw]; exact (Upd.refl (fun _ => False) w13).drewN _
  have Ht := Lib.hid (Ht.out.keep hk)
  have Hu := Lib.hid (Hu.out.keep hk)
  have Hv := Lib.hid (Hv.out.keep hk)
  have HU0 := Lib.hid (HU0.out.trans' hk)
  clear hw hk
  clear Ht
  go_wp2_with fail
  refine (rsigned_any _ _ _ _ Hu.out.rd).mono ?_
  intro e w15 hp
  have ht : RS.signed ⟨[255, 255, 255, 255, 255, 255, 255, 255, 255, 1], 0, 0, 0⟩ = (⟨[255, 255, 255, 255, 255, 255, 255, 255, 255, 1], 10, 0, 0⟩, -9223372036854775808) := by kernel_rfl
  rw [ht] at hp
  obtain ⟨rfl, hp2⟩ := hp
  clear ht
  have H0 := Hu
  have Hv := Lib.hid (Hv.out.beside H0.out (.inr (Nat.le_refl _)) hp2.2)
  have HU0 := Lib.hid (H0.out.new (by have := HL0.out; have := HL1.out; have := HL2.out; omega) HU0.out hp2.2)
  have Hu := Lib.hid (H0.out.step hp2)
  clear hp2 H0
  go_wp2_with fail
  refine (rend_any _ _ _ _ Hu.out.rd).mono ?_
  intro e w16 hp
  rw [show RS.fin ⟨[255, 255, 255, 255, 255, 255, 255, 255, 255, 1], 10, 0, 0⟩ = (0, 0) from rfl] at hp
  obtain ⟨rfl, n16, hw⟩ := hp
  have hk : Upd (fun _ => False) w15 w16 := by rw [hw]; exact (Upd.refl (fun _ => False) w15).drewN _
  have Hu := Lib.hid (Hu.out.keep hk)
  have Hv := Lib.hid (Hv.out.keep hk)
  have HU0 := Lib.hid (HU0.out.trans' hk)
  clear hw hk
  clear Hu
  go_wp2_with fail
  refine (rnum_any _ _ _ 0 _ Hv.out.rd).mono ?_
  intro e w17 hp
  have ht : RS.number ⟨[0, 7], 0, 0, 0⟩ 0 = (⟨[0, 7], 1, 0, 0⟩, 0) := by kernel_rfl
  unfold RNumP at hp
  rw [ht] at hp
  obtain ⟨rfl, hp2⟩ := hp
  clear ht
  have H0 := Hv
  have HU0 := Lib.hid (H0.out.new (by have := HL0.out; have := HL1.out; have := HL2.out; have := HL3.out; omega) HU0.out hp2.2)
  have Hv := Lib.hid (H0.out.step hp2)
  clear hp2 H0
  go_wp2_with fail
  refine (rraw_any _ _ _ (-1) _ Hv.out.rd (by omega)).mono ?_
  intro e w18 hp
  have ht : RS.take ⟨[0, 7], 1, 0, 0⟩ (max (-1) 0) = ⟨[0, 7], 1, 0, 0⟩ := by kernel_rfl
  have ht2 : RS.took ⟨[0, 7], 1, 0, 0⟩ (max (-1) 0) = [] := by kernel_rfl
  unfold RawP at hp
  rw [ht, ht2] at hp
  obtain ⟨vr, rfl, hown, hp2⟩ := hp
  obtain ⟨aor, capr, rfl⟩ := own_shape hown
  clear ht ht2 hown
  have H0 := Hv
  have HU0 := Lib.hid (H0.out.new (by have := HL0.out; have := HL1.out; have := HL2.out; have := HL3.out; omega) HU0.out hp2.2)
  have Hv := Lib.hid (H0.out.step hp2)
  clear hp2 H0
  go_wp2_with fail
  refine (rfail_any _ _ _ 0 _ Hv.out.rd).mono ?_
  intro e w19 hp
  have ht : RS.refuse ⟨[0, 7], 1, 0, 0⟩ 0 1 = ⟨[0, 7], 1, 0, 0⟩ := by kernel_rfl
  obtain ⟨rfl, hp2⟩ := hp
  have hp3 := hp2
  rw [show RS.refuse ⟨[0, 7], 1, 0, 0⟩ 0 ((1 : Nat) : Int) = ⟨[0, 7], 1, 0, 0⟩ by kernel_rfl] at hp3
  replace hp2 := hp3
  clear ht hp3
  have H0 := Hv
  have HU0 := Lib.hid (H0.out.new (by have := HL0.out; have := HL1.out; have := HL2.out; have := HL3.out; omega) HU0.out hp2.2)
  have Hv := Lib.hid (H0.out.step hp2)
  clear hp2 H0
  go_wp2_with fail
  refine (rend_any _ _ _ _ Hv.out.rd).mono ?_
  intro e w20 hp
  rw [show RS.fin ⟨[0, 7], 1, 0, 0⟩ = (11, 1) from rfl] at hp
  obtain ⟨rfl, n20, hw⟩ := hp
  have hk : Upd (fun _ => False) w19 w20 := by rw [hw]; exact (Upd.refl (fun _ => False) w19).drewN _
  have Hv := Lib.hid (Hv.out.keep hk)
  have HU0 := Lib.hid (HU0.out.trans' hk)
  clear hw hk
  go_wp2_with fail
  refine (rfail_any _ _ _ 13 _ Hv.out.rd).mono ?_
  intro e w21 hp
  obtain ⟨rfl, hp2⟩ := hp
  have hp3 := hp2
  rw [show RS.refuse ⟨[0, 7], 1, 0, 0⟩ 13 ((1 : Nat) : Int) = ⟨[0, 7], 1, 13, 1⟩ by kernel_rfl] at hp3
  replace hp2 := hp3
  clear hp3
  have H0 := Hv
  have HU0 := Lib.hid (H0.out.new (by have := HL0.out; have := HL1.out; have := HL2.out; have := HL3.out; omega) HU0.out hp2.2)
  have Hv := Lib.hid (H0.out.step hp2)
  clear hp2 H0
  go_wp2_with fail
  refine (rend_any _ _ _ _ Hv.out.rd).mono ?_
  intro e w22 hp
  rw [show RS.fin ⟨[0, 7], 1, 13, 1⟩ = (13, 1) from rfl] at hp
  obtain ⟨rfl, n22, hw⟩ := hp
  have hk : Upd (fun _ => False) w21 w22 := by rw [hw]; exact (Upd.refl (fun _ => False) w21).drewN _
  have Hv := Lib.hid (Hv.out.keep hk)
  have HU0 := Lib.hid (HU0.out.trans' hk)
  clear hw hk
  go_wp2_with fail
  refine (rleft_any _ _ _ _ Hv.out.rd).mono ?_
  intro e w23 hp
  rw [show RS.left ⟨[0, 7], 1, 13, 1⟩ = 0 from rfl] at hp
  obtain ⟨rfl, n23, hw⟩ := hp
  have hk : Upd (fun _ => False) w22 w23 := by rw [hw]; exact (Upd.refl (fun _ => False) w22).drewN _
  have Hv := Lib.hid (Hv.out.keep hk)
  have HU0 := Lib.hid (HU0.out.trans' hk)
  clear hw hk
  go_wp2_with fail
  refine (known_any _).mono ?_
  rintro e wk ⟨rfl, huk⟩
  have HUK := Lib.hid huk
  clear huk
  go_wp2
  go_ret
  exact ⟨rfl, HU0.out.trans' HUK.out⟩
end Go.Proofs.Ytbpeoclhabgcgaa
