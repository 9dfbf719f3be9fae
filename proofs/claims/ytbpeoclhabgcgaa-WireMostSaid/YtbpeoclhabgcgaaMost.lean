import Derived.Test.YtbpeoclhabgcgaaTrip
namespace Go.Proofs.Ytbpeoclhabgcgaa
open Go.RowKit
set_option linter.unusedVariables false
set_option linter.unusedSimpArgs false

theorem fin_three (l : List UInt8) (p : Nat) (n : Int) : RS.fin ⟨l, p, 3, n⟩ = (3, n) := by simp [RS.fin]
theorem fin_done (l : List UInt8) (p : Nat) (h : p = l.length) : RS.fin ⟨l, p, 0, 0⟩ = (0, 0) := by simp [RS.fin, h]

set_option maxHeartbeats 1600000 in
set_option maxRecDepth 100000 in
theorem most_negTooLong (n most long : Int) (s : ByteArray) (w : World) (hn : U64 n) (hm : U64 most) (hs : s.size ≤ 140737488351232) (hl : -9223372036854775808 ≤ long ∧ long ≤ 9223372036854775807) (h1 : long < 0) (h2 : 0 < s.size) :
    Calls Try.prog 6 #[.int .u64 n, .int .u64 most, .string s, .int .i64 long] w (TrueP w) := by
  obtain ⟨hn0, hn1⟩ := hn
  obtain ⟨hm0, hm1⟩ := hm
  obtain ⟨hl0, hl1⟩ := hl
  have HL : Hid ((encN s.size).length ≤ 10) := by have := encN_u64 (n := (s.size : Int)) ⟨by omega, by omega⟩; rwa [show (s.size : Int).toNat = s.size by omega] at this
  have HL1 : Hid ((encN n.toNat).length ≤ 10) := encN_u64 ⟨hn0, hn1⟩
  go_enter Try.func6, Try.ntmps6
  go_wp2_with fail
  refine (newWriter_any _).mono ?_
  rintro e w1 ⟨a, rfl, ha, hw1, hu1⟩
  have HW1 := Lib.hid hw1
  have HA := Lib.hid ha
  have HU1 := Lib.hid hu1
  clear hw1 ha hu1
  go_wp2_with fail
  refine (number_any a _ [] n _ HW1.out ⟨hn0, hn1⟩ (by simp)).mono ?_
  rintro e w2 ⟨rfl, v2, hw2, hu2, hv2⟩
  have HW2 := Lib.hid hw2
  have HU2 := Lib.hid (HU1.out.new (S := WrS a (.slice none 0 0)) (by rintro k (rfl | hk); exact HA.out; simp [Value.ownBlock] at hk) hu2)
  clear hw2 hu2 hv2
  go_wp2_with fail
  refine (done_any a _ _ _ HW2.out (by have := HL1.out; simp; omega)).mono ?_
  rintro e w3 ⟨v3, rfl, ho3, hu3⟩
  have HB3 := Lib.hid (Bytes_own ho3)
  have HU3 := Lib.hid (HU2.out.trans' hu3)
  clear ho3 hu3
  go_wp2_with fail
  refine (newReader_any v3 _ _ HB3.out (by have := HL1.out; simp; omega)).mono ?_
  rintro e w4 ⟨b4, vs4, rfl, hb4, _, hr4, hu4⟩
  have hnb4 := Nat.le_trans HU3.out.size hb4
  have HR4 := Lib.hid hr4
  have HU4 := Lib.hid (HU3.out.trans' hu4)
  have HB4 := Lib.hid hnb4
  clear hr4 hu4 hb4 hnb4
  go_wp2_with fail
  refine (rnum_any b4 vs4 _ most _ HR4.out).mono ?_
  intro e w5 hp
  have ht := number_enc n.toNat [] [] most (by omega)
  unfold RNumP at hp
  rw [show [] ++ encN n.toNat = [] ++ (encN n.toNat ++ []) by simp, show (⟨[] ++ (encN n.toNat ++ []), 0, 0, 0⟩ : RS) = ⟨[] ++ (encN n.toNat ++ []), ([] : List UInt8).length, 0, 0⟩ from rfl, ht] at hp
  clear ht
  by_cases hA : most < n
  · rw [if_pos (by omega)] at hp
    obtain ⟨rfl, hr5, hu5⟩ := hp
    have HR5 := Lib.hid hr5
    have HU5 := Lib.hid (HU4.out.new (fun k (h : k = b4) => h ▸ HB4.out) hu5)
    clear hr5 hu5
    go_wp2_with fail
    refine (rend_any b4 vs4 _ _ HR5.out).mono ?_
    intro e w5' hp
    rw [fin_three] at hp
    obtain ⟨rfl, n5, hw5⟩ := hp
    have HU5' := Lib.hid (show Upd (fun _ => False) w w5' by rw [hw5]; exact HU5.out.drewN n5)
    clear hw5 HU5
    have HU5 := HU5'
    go_wp2_with fail
    refine (newWriter_any _).mono ?_
    rintro e w6 ⟨a2, rfl, ha2, hw6, hu6⟩
    have HW6 := Lib.hid hw6
    have HA6 := Lib.hid (Nat.le_trans HU5.out.size ha2)
    have HU6 := Lib.hid (HU5.out.trans' hu6)
    clear hw6 ha2 hu6
    go_wp2_with fail
    refine (wtext_any a2 _ s [] _ HW6.out (by simp; omega)).mono ?_
    rintro e w7 ⟨rfl, v7, hw7, hu7, hv7⟩
    have HW7 := Lib.hid hw7
    have HU7 := Lib.hid (HU6.out.new (S := WrS a2 (.slice none 0 0)) (by rintro k (rfl | hk); exact HA6.out; simp [Value.ownBlock] at hk) hu7)
    clear hw7 hu7 hv7
    go_wp2_with fail
    refine (done_any a2 _ _ _ HW7.out (by have := HL.out; simp at this ⊢; omega)).mono ?_
    rintro e w8 ⟨v8, rfl, ho8, hu8⟩
    have HB8 := Lib.hid (Bytes_own ho8)
    have HU8 := Lib.hid (HU7.out.trans' hu8)
    clear ho8 hu8
    go_wp2_with fail
    refine (newReader_any v8 _ _ HB8.out (by have := HL.out; simp at this ⊢; omega)).mono ?_
    rintro e w9 ⟨b9, vs9, rfl, hb9, _, hr9, hu9⟩
    have hnb9 := Nat.le_trans HU8.out.size hb9
    have HR9 := Lib.hid hr9
    have HU9 := Lib.hid (HU8.out.trans' hu9)
    have HB9 := Lib.hid hnb9
    clear hr9 hu9 hb9 hnb9
    go_wp2_with fail
    refine (rtext_any b9 vs9 _ long _ HR9.out (by omega)).mono ?_
    intro e w10 hp
    have ht := text_enc s [] [] long (by omega)
    unfold TextP at hp
    rw [show [] ++ encN s.size ++ s.data.toList = [] ++ (encN s.size ++ (s.data.toList ++ [])) by simp, show (⟨[] ++ (encN s.size ++ (s.data.toList ++ [])), 0, 0, 0⟩ : RS) = ⟨[] ++ (encN s.size ++ (s.data.toList ++ [])), ([] : List UInt8).length, 0, 0⟩ from rfl, ht] at hp
    clear ht
    rw [if_pos (by omega)] at hp
    obtain ⟨rfl, hr10, hu10⟩ := hp
    have HR10 := Lib.hid hr10
    have HU10 := Lib.hid (HU9.out.new (fun k (h : k = b9) => h ▸ HB9.out) hu10)
    clear hr10 hu10
    go_wp2_with fail
    refine (rend_any b9 vs9 _ _ HR10.out).mono ?_
    intro e w11 hp
    rw [fin_three] at hp
    obtain ⟨rfl, n11, rfl⟩ := hp
    have c1 : ¬ s = ByteArray.empty := by rintro rfl; simp at h2
    go_wp2_with fail
    refine (known_any _).mono ?_
    rintro e w12 ⟨rfl, hu12⟩
    have HU12 := Lib.hid hu12
    clear hu12
    go_wp2
    go_ret
    exact ⟨rfl, (HU10.out.drewN n11).trans' HU12.out⟩
  · rw [if_neg (by omega)] at hp
    obtain ⟨rfl, hr5, hu5⟩ := hp
    have HR5 := Lib.hid hr5
    have HU5 := Lib.hid (HU4.out.new (fun k (h : k = b4) => h ▸ HB4.out) hu5)
    have en : (n.toNat : Int) = n := by omega
    rw [en]
    clear hr5 hu5 en
    go_wp2_with fail
    refine (rend_any b4 vs4 _ _ HR5.out).mono ?_
    intro e w5' hp
    rw [fin_done _ _ (by simp)] at hp
    obtain ⟨rfl, n5, hw5⟩ := hp
    have HU5' := Lib.hid (show Upd (fun _ => False) w w5' by rw [hw5]; exact HU5.out.drewN n5)
    have en : (n != n) = false := by simp
    clear hw5 HU5
    have HU5 := HU5'
    go_wp2_with fail
    refine (newWriter_any _).mono ?_
    rintro e w6 ⟨a2, rfl, ha2, hw6, hu6⟩
    have HW6 := Lib.hid hw6
    have HA6 := Lib.hid (Nat.le_trans HU5.out.size ha2)
    have HU6 := Lib.hid (HU5.out.trans' hu6)
    clear hw6 ha2 hu6
    go_wp2_with fail
    refine (wtext_any a2 _ s [] _ HW6.out (by simp; omega)).mono ?_
    rintro e w7 ⟨rfl, v7, hw7, hu7, hv7⟩
    have HW7 := Lib.hid hw7
    have HU7 := Lib.hid (HU6.out.new (S := WrS a2 (.slice none 0 0)) (by rintro k (rfl | hk); exact HA6.out; simp [Value.ownBlock] at hk) hu7)
    clear hw7 hu7 hv7
    go_wp2_with fail
    refine (done_any a2 _ _ _ HW7.out (by have := HL.out; simp at this ⊢; omega)).mono ?_
    rintro e w8 ⟨v8, rfl, ho8, hu8⟩
    have HB8 := Lib.hid (Bytes_own ho8)
    have HU8 := Lib.hid (HU7.out.trans' hu8)
    clear ho8 hu8
    go_wp2_with fail
    refine (newReader_any v8 _ _ HB8.out (by have := HL.out; simp at this ⊢; omega)).mono ?_
    rintro e w9 ⟨b9, vs9, rfl, hb9, _, hr9, hu9⟩
    have hnb9 := Nat.le_trans HU8.out.size hb9
    have HR9 := Lib.hid hr9
    have HU9 := Lib.hid (HU8.out.trans' hu9)
    have HB9 := Lib.hid hnb9
    clear hr9 hu9 hb9 hnb9
    go_wp2_with fail
    refine (rtext_any b9 vs9 _ long _ HR9.out (by omega)).mono ?_
    intro e w10 hp
    have ht := text_enc s [] [] long (by omega)
    unfold TextP at hp
    rw [show [] ++ encN s.size ++ s.data.toList = [] ++ (encN s.size ++ (s.data.toList ++ [])) by simp, show (⟨[] ++ (encN s.size ++ (s.data.toList ++ [])), 0, 0, 0⟩ : RS) = ⟨[] ++ (encN s.size ++ (s.data.toList ++ [])), ([] : List UInt8).length, 0, 0⟩ from rfl, ht] at hp
    clear ht
    rw [if_pos (by omega)] at hp
    obtain ⟨rfl, hr10, hu10⟩ := hp
    have HR10 := Lib.hid hr10
    have HU10 := Lib.hid (HU9.out.new (fun k (h : k = b9) => h ▸ HB9.out) hu10)
    clear hr10 hu10
    go_wp2_with fail
    refine (rend_any b9 vs9 _ _ HR10.out).mono ?_
    intro e w11 hp
    rw [fin_three] at hp
    obtain ⟨rfl, n11, rfl⟩ := hp
    have c1 : ¬ s = ByteArray.empty := by rintro rfl; simp at h2
    go_wp2_with fail
    refine (known_any _).mono ?_
    rintro e w12 ⟨rfl, hu12⟩
    have HU12 := Lib.hid hu12
    clear hu12
    go_wp2
    go_ret
    exact ⟨rfl, (HU10.out.drewN n11).trans' HU12.out⟩

set_option maxHeartbeats 1600000 in
set_option maxRecDepth 100000 in
theorem most_negFits (n most long : Int) (s : ByteArray) (w : World) (hn : U64 n) (hm : U64 most) (hs : s.size ≤ 140737488351232) (hl : -9223372036854775808 ≤ long ∧ long ≤ 9223372036854775807) (h1 : long < 0) (h2 : s.size < 1) :
    Calls Try.prog 6 #[.int .u64 n, .int .u64 most, .string s, .int .i64 long] w (TrueP w) := by
  obtain ⟨hn0, hn1⟩ := hn
  obtain ⟨hm0, hm1⟩ := hm
  obtain ⟨hl0, hl1⟩ := hl
  have HL : Hid ((encN s.size).length ≤ 10) := by have := encN_u64 (n := (s.size : Int)) ⟨by omega, by omega⟩; rwa [show (s.size : Int).toNat = s.size by omega] at this
  have HL1 : Hid ((encN n.toNat).length ≤ 10) := encN_u64 ⟨hn0, hn1⟩
  go_enter Try.func6, Try.ntmps6
  go_wp2_with fail
  refine (newWriter_any _).mono ?_
  rintro e w1 ⟨a, rfl, ha, hw1, hu1⟩
  have HW1 := Lib.hid hw1
  have HA := Lib.hid ha
  have HU1 := Lib.hid hu1
  clear hw1 ha hu1
  go_wp2_with fail
  refine (number_any a _ [] n _ HW1.out ⟨hn0, hn1⟩ (by simp)).mono ?_
  rintro e w2 ⟨rfl, v2, hw2, hu2, hv2⟩
  have HW2 := Lib.hid hw2
  have HU2 := Lib.hid (HU1.out.new (S := WrS a (.slice none 0 0)) (by rintro k (rfl | hk); exact HA.out; simp [Value.ownBlock] at hk) hu2)
  clear hw2 hu2 hv2
  go_wp2_with fail
  refine (done_any a _ _ _ HW2.out (by have := HL1.out; simp; omega)).mono ?_
  rintro e w3 ⟨v3, rfl, ho3, hu3⟩
  have HB3 := Lib.hid (Bytes_own ho3)
  have HU3 := Lib.hid (HU2.out.trans' hu3)
  clear ho3 hu3
  go_wp2_with fail
  refine (newReader_any v3 _ _ HB3.out (by have := HL1.out; simp; omega)).mono ?_
  rintro e w4 ⟨b4, vs4, rfl, hb4, _, hr4, hu4⟩
  have hnb4 := Nat.le_trans HU3.out.size hb4
  have HR4 := Lib.hid hr4
  have HU4 := Lib.hid (HU3.out.trans' hu4)
  have HB4 := Lib.hid hnb4
  clear hr4 hu4 hb4 hnb4
  go_wp2_with fail
  refine (rnum_any b4 vs4 _ most _ HR4.out).mono ?_
  intro e w5 hp
  have ht := number_enc n.toNat [] [] most (by omega)
  unfold RNumP at hp
  rw [show [] ++ encN n.toNat = [] ++ (encN n.toNat ++ []) by simp, show (⟨[] ++ (encN n.toNat ++ []), 0, 0, 0⟩ : RS) = ⟨[] ++ (encN n.toNat ++ []), ([] : List UInt8).length, 0, 0⟩ from rfl, ht] at hp
  clear ht
  by_cases hA : most < n
  · rw [if_pos (by omega)] at hp
    obtain ⟨rfl, hr5, hu5⟩ := hp
    have HR5 := Lib.hid hr5
    have HU5 := Lib.hid (HU4.out.new (fun k (h : k = b4) => h ▸ HB4.out) hu5)
    clear hr5 hu5
    go_wp2_with fail
    refine (rend_any b4 vs4 _ _ HR5.out).mono ?_
    intro e w5' hp
    rw [fin_three] at hp
    obtain ⟨rfl, n5, hw5⟩ := hp
    have HU5' := Lib.hid (show Upd (fun _ => False) w w5' by rw [hw5]; exact HU5.out.drewN n5)
    clear hw5 HU5
    have HU5 := HU5'
    go_wp2_with fail
    refine (newWriter_any _).mono ?_
    rintro e w6 ⟨a2, rfl, ha2, hw6, hu6⟩
    have HW6 := Lib.hid hw6
    have HA6 := Lib.hid (Nat.le_trans HU5.out.size ha2)
    have HU6 := Lib.hid (HU5.out.trans' hu6)
    clear hw6 ha2 hu6
    go_wp2_with fail
    refine (wtext_any a2 _ s [] _ HW6.out (by simp; omega)).mono ?_
    rintro e w7 ⟨rfl, v7, hw7, hu7, hv7⟩
    have HW7 := Lib.hid hw7
    have HU7 := Lib.hid (HU6.out.new (S := WrS a2 (.slice none 0 0)) (by rintro k (rfl | hk); exact HA6.out; simp [Value.ownBlock] at hk) hu7)
    clear hw7 hu7 hv7
    go_wp2_with fail
    refine (done_any a2 _ _ _ HW7.out (by have := HL.out; simp at this ⊢; omega)).mono ?_
    rintro e w8 ⟨v8, rfl, ho8, hu8⟩
    have HB8 := Lib.hid (Bytes_own ho8)
    have HU8 := Lib.hid (HU7.out.trans' hu8)
    clear ho8 hu8
    go_wp2_with fail
    refine (newReader_any v8 _ _ HB8.out (by have := HL.out; simp at this ⊢; omega)).mono ?_
    rintro e w9 ⟨b9, vs9, rfl, hb9, _, hr9, hu9⟩
    have hnb9 := Nat.le_trans HU8.out.size hb9
    have HR9 := Lib.hid hr9
    have HU9 := Lib.hid (HU8.out.trans' hu9)
    have HB9 := Lib.hid hnb9
    clear hr9 hu9 hb9 hnb9
    go_wp2_with fail
    refine (rtext_any b9 vs9 _ long _ HR9.out (by omega)).mono ?_
    intro e w10 hp
    have ht := text_enc s [] [] long (by omega)
    unfold TextP at hp
    rw [show [] ++ encN s.size ++ s.data.toList = [] ++ (encN s.size ++ (s.data.toList ++ [])) by simp, show (⟨[] ++ (encN s.size ++ (s.data.toList ++ [])), 0, 0, 0⟩ : RS) = ⟨[] ++ (encN s.size ++ (s.data.toList ++ [])), ([] : List UInt8).length, 0, 0⟩ from rfl, ht] at hp
    clear ht
    rw [if_neg (by omega), strOf_self] at hp
    obtain ⟨rfl, hr10, hu10⟩ := hp
    have HR10 := Lib.hid hr10
    have HU10 := Lib.hid (HU9.out.new (fun k (h : k = b9) => h ▸ HB9.out) hu10)
    clear hr10 hu10
    go_wp2_with fail
    refine (rend_any b9 vs9 _ _ HR10.out).mono ?_
    intro e w11 hp
    rw [fin_done _ _ (by simp)] at hp
    obtain ⟨rfl, n11, rfl⟩ := hp
    have c1 : s = ByteArray.empty := ByteArray.size_eq_zero_iff.1 (by omega)
    go_wp2_with fail
    refine (known_any _).mono ?_
    rintro e w12 ⟨rfl, hu12⟩
    have HU12 := Lib.hid hu12
    clear hu12
    go_wp2
    go_ret
    exact ⟨rfl, (HU10.out.drewN n11).trans' HU12.out⟩
  · rw [if_neg (by omega)] at hp
    obtain ⟨rfl, hr5, hu5⟩ := hp
    have HR5 := Lib.hid hr5
    have HU5 := Lib.hid (HU4.out.new (fun k (h : k = b4) => h ▸ HB4.out) hu5)
    have en : (n.toNat : Int) = n := by omega
    rw [en]
    clear hr5 hu5 en
    go_wp2_with fail
    refine (rend_any b4 vs4 _ _ HR5.out).mono ?_
    intro e w5' hp
    rw [fin_done _ _ (by simp)] at hp
    obtain ⟨rfl, n5, hw5⟩ := hp
    have HU5' := Lib.hid (show Upd (fun _ => False) w w5' by rw [hw5]; exact HU5.out.drewN n5)
    have en : (n != n) = false := by simp
    clear hw5 HU5
    have HU5 := HU5'
    go_wp2_with fail
    refine (newWriter_any _).mono ?_
    rintro e w6 ⟨a2, rfl, ha2, hw6, hu6⟩
    have HW6 := Lib.hid hw6
    have HA6 := Lib.hid (Nat.le_trans HU5.out.size ha2)
    have HU6 := Lib.hid (HU5.out.trans' hu6)
    clear hw6 ha2 hu6
    go_wp2_with fail
    refine (wtext_any a2 _ s [] _ HW6.out (by simp; omega)).mono ?_
    rintro e w7 ⟨rfl, v7, hw7, hu7, hv7⟩
    have HW7 := Lib.hid hw7
    have HU7 := Lib.hid (HU6.out.new (S := WrS a2 (.slice none 0 0)) (by rintro k (rfl | hk); exact HA6.out; simp [Value.ownBlock] at hk) hu7)
    clear hw7 hu7 hv7
    go_wp2_with fail
    refine (done_any a2 _ _ _ HW7.out (by have := HL.out; simp at this ⊢; omega)).mono ?_
    rintro e w8 ⟨v8, rfl, ho8, hu8⟩
    have HB8 := Lib.hid (Bytes_own ho8)
    have HU8 := Lib.hid (HU7.out.trans' hu8)
    clear ho8 hu8
    go_wp2_with fail
    refine (newReader_any v8 _ _ HB8.out (by have := HL.out; simp at this ⊢; omega)).mono ?_
    rintro e w9 ⟨b9, vs9, rfl, hb9, _, hr9, hu9⟩
    have hnb9 := Nat.le_trans HU8.out.size hb9
    have HR9 := Lib.hid hr9
    have HU9 := Lib.hid (HU8.out.trans' hu9)
    have HB9 := Lib.hid hnb9
    clear hr9 hu9 hb9 hnb9
    go_wp2_with fail
    refine (rtext_any b9 vs9 _ long _ HR9.out (by omega)).mono ?_
    intro e w10 hp
    have ht := text_enc s [] [] long (by omega)
    unfold TextP at hp
    rw [show [] ++ encN s.size ++ s.data.toList = [] ++ (encN s.size ++ (s.data.toList ++ [])) by simp, show (⟨[] ++ (encN s.size ++ (s.data.toList ++ [])), 0, 0, 0⟩ : RS) = ⟨[] ++ (encN s.size ++ (s.data.toList ++ [])), ([] : List UInt8).length, 0, 0⟩ from rfl, ht] at hp
    clear ht
    rw [if_neg (by omega), strOf_self] at hp
    obtain ⟨rfl, hr10, hu10⟩ := hp
    have HR10 := Lib.hid hr10
    have HU10 := Lib.hid (HU9.out.new (fun k (h : k = b9) => h ▸ HB9.out) hu10)
    clear hr10 hu10
    go_wp2_with fail
    refine (rend_any b9 vs9 _ _ HR10.out).mono ?_
    intro e w11 hp
    rw [fin_done _ _ (by simp)] at hp
    obtain ⟨rfl, n11, rfl⟩ := hp
    have c1 : s = ByteArray.empty := ByteArray.size_eq_zero_iff.1 (by omega)
    go_wp2_with fail
    refine (known_any _).mono ?_
    rintro e w12 ⟨rfl, hu12⟩
    have HU12 := Lib.hid hu12
    clear hu12
    go_wp2
    go_ret
    exact ⟨rfl, (HU10.out.drewN n11).trans' HU12.out⟩

set_option maxHeartbeats 1600000 in
set_option maxRecDepth 100000 in
theorem most_tooLong (n most long : Int) (s : ByteArray) (w : World) (hn : U64 n) (hm : U64 most) (hs : s.size ≤ 140737488351232) (hl : -9223372036854775808 ≤ long ∧ long ≤ 9223372036854775807) (h1 : 0 ≤ long) (h2 : long < s.size) :
    Calls Try.prog 6 #[.int .u64 n, .int .u64 most, .string s, .int .i64 long] w (TrueP w) := by
  obtain ⟨hn0, hn1⟩ := hn
  obtain ⟨hm0, hm1⟩ := hm
  obtain ⟨hl0, hl1⟩ := hl
  have HL : Hid ((encN s.size).length ≤ 10) := by have := encN_u64 (n := (s.size : Int)) ⟨by omega, by omega⟩; rwa [show (s.size : Int).toNat = s.size by omega] at this
  have HL1 : Hid ((encN n.toNat).length ≤ 10) := encN_u64 ⟨hn0, hn1⟩
  go_enter Try.func6, Try.ntmps6
  go_wp2_with fail
  refine (newWriter_any _).mono ?_
  rintro e w1 ⟨a, rfl, ha, hw1, hu1⟩
  have HW1 := Lib.hid hw1
  have HA := Lib.hid ha
  have HU1 := Lib.hid hu1
  clear hw1 ha hu1
  go_wp2_with fail
  refine (number_any a _ [] n _ HW1.out ⟨hn0, hn1⟩ (by simp)).mono ?_
  rintro e w2 ⟨rfl, v2, hw2, hu2, hv2⟩
  have HW2 := Lib.hid hw2
  have HU2 := Lib.hid (HU1.out.new (S := WrS a (.slice none 0 0)) (by rintro k (rfl | hk); exact HA.out; simp [Value.ownBlock] at hk) hu2)
  clear hw2 hu2 hv2
  go_wp2_with fail
  refine (done_any a _ _ _ HW2.out (by have := HL1.out; simp; omega)).mono ?_
  rintro e w3 ⟨v3, rfl, ho3, hu3⟩
  have HB3 := Lib.hid (Bytes_own ho3)
  have HU3 := Lib.hid (HU2.out.trans' hu3)
  clear ho3 hu3
  go_wp2_with fail
  refine (newReader_any v3 _ _ HB3.out (by have := HL1.out; simp; omega)).mono ?_
  rintro e w4 ⟨b4, vs4, rfl, hb4, _, hr4, hu4⟩
  have hnb4 := Nat.le_trans HU3.out.size hb4
  have HR4 := Lib.hid hr4
  have HU4 := Lib.hid (HU3.out.trans' hu4)
  have HB4 := Lib.hid hnb4
  clear hr4 hu4 hb4 hnb4
  go_wp2_with fail
  refine (rnum_any b4 vs4 _ most _ HR4.out).mono ?_
  intro e w5 hp
  have ht := number_enc n.toNat [] [] most (by omega)
  unfold RNumP at hp
  rw [show [] ++ encN n.toNat = [] ++ (encN n.toNat ++ []) by simp, show (⟨[] ++ (encN n.toNat ++ []), 0, 0, 0⟩ : RS) = ⟨[] ++ (encN n.toNat ++ []), ([] : List UInt8).length, 0, 0⟩ from rfl, ht] at hp
  clear ht
  by_cases hA : most < n
  · rw [if_pos (by omega)] at hp
    obtain ⟨rfl, hr5, hu5⟩ := hp
    have HR5 := Lib.hid hr5
    have HU5 := Lib.hid (HU4.out.new (fun k (h : k = b4) => h ▸ HB4.out) hu5)
    clear hr5 hu5
    go_wp2_with fail
    refine (rend_any b4 vs4 _ _ HR5.out).mono ?_
    intro e w5' hp
    rw [fin_three] at hp
    obtain ⟨rfl, n5, hw5⟩ := hp
    have HU5' := Lib.hid (show Upd (fun _ => False) w w5' by rw [hw5]; exact HU5.out.drewN n5)
    clear hw5 HU5
    have HU5 := HU5'
    go_wp2_with fail
    refine (newWriter_any _).mono ?_
    rintro e w6 ⟨a2, rfl, ha2, hw6, hu6⟩
    have HW6 := Lib.hid hw6
    have HA6 := Lib.hid (Nat.le_trans HU5.out.size ha2)
    have HU6 := Lib.hid (HU5.out.trans' hu6)
    clear hw6 ha2 hu6
    go_wp2_with fail
    refine (wtext_any a2 _ s [] _ HW6.out (by simp; omega)).mono ?_
    rintro e w7 ⟨rfl, v7, hw7, hu7, hv7⟩
    have HW7 := Lib.hid hw7
    have HU7 := Lib.hid (HU6.out.new (S := WrS a2 (.slice none 0 0)) (by rintro k (rfl | hk); exact HA6.out; simp [Value.ownBlock] at hk) hu7)
    clear hw7 hu7 hv7
    go_wp2_with fail
    refine (done_any a2 _ _ _ HW7.out (by have := HL.out; simp at this ⊢; omega)).mono ?_
    rintro e w8 ⟨v8, rfl, ho8, hu8⟩
    have HB8 := Lib.hid (Bytes_own ho8)
    have HU8 := Lib.hid (HU7.out.trans' hu8)
    clear ho8 hu8
    go_wp2_with fail
    refine (newReader_any v8 _ _ HB8.out (by have := HL.out; simp at this ⊢; omega)).mono ?_
    rintro e w9 ⟨b9, vs9, rfl, hb9, _, hr9, hu9⟩
    have hnb9 := Nat.le_trans HU8.out.size hb9
    have HR9 := Lib.hid hr9
    have HU9 := Lib.hid (HU8.out.trans' hu9)
    have HB9 := Lib.hid hnb9
    clear hr9 hu9 hb9 hnb9
    go_wp2_with fail
    refine (rtext_any b9 vs9 _ long _ HR9.out (by omega)).mono ?_
    intro e w10 hp
    have ht := text_enc s [] [] long (by omega)
    unfold TextP at hp
    rw [show [] ++ encN s.size ++ s.data.toList = [] ++ (encN s.size ++ (s.data.toList ++ [])) by simp, show (⟨[] ++ (encN s.size ++ (s.data.toList ++ [])), 0, 0, 0⟩ : RS) = ⟨[] ++ (encN s.size ++ (s.data.toList ++ [])), ([] : List UInt8).length, 0, 0⟩ from rfl, ht] at hp
    clear ht
    rw [if_pos (by omega)] at hp
    obtain ⟨rfl, hr10, hu10⟩ := hp
    have HR10 := Lib.hid hr10
    have HU10 := Lib.hid (HU9.out.new (fun k (h : k = b9) => h ▸ HB9.out) hu10)
    clear hr10 hu10
    go_wp2_with fail
    refine (rend_any b9 vs9 _ _ HR10.out).mono ?_
    intro e w11 hp
    rw [fin_three] at hp
    obtain ⟨rfl, n11, rfl⟩ := hp
    have c1 : decide ((s.size : Int) ≤ long) = false := by simp; omega
    go_wp2_with fail
    refine (known_any _).mono ?_
    rintro e w12 ⟨rfl, hu12⟩
    have HU12 := Lib.hid hu12
    clear hu12
    go_wp2
    go_ret
    exact ⟨rfl, (HU10.out.drewN n11).trans' HU12.out⟩
  · rw [if_neg (by omega)] at hp
    obtain ⟨rfl, hr5, hu5⟩ := hp
    have HR5 := Lib.hid hr5
    have HU5 := Lib.hid (HU4.out.new (fun k (h : k = b4) => h ▸ HB4.out) hu5)
    have en : (n.toNat : Int) = n := by omega
    rw [en]
    clear hr5 hu5 en
    go_wp2_with fail
    refine (rend_any b4 vs4 _ _ HR5.out).mono ?_
    intro e w5' hp
    rw [fin_done _ _ (by simp)] at hp
    obtain ⟨rfl, n5, hw5⟩ := hp
    have HU5' := Lib.hid (show Upd (fun _ => False) w w5' by rw [hw5]; exact HU5.out.drewN n5)
    have en : (n != n) = false := by simp
    clear hw5 HU5
    have HU5 := HU5'
    go_wp2_with fail
    refine (newWriter_any _).mono ?_
    rintro e w6 ⟨a2, rfl, ha2, hw6, hu6⟩
    have HW6 := Lib.hid hw6
    have HA6 := Lib.hid (Nat.le_trans HU5.out.size ha2)
    have HU6 := Lib.hid (HU5.out.trans' hu6)
    clear hw6 ha2 hu6
    go_wp2_with fail
    refine (wtext_any a2 _ s [] _ HW6.out (by simp; omega)).mono ?_
    rintro e w7 ⟨rfl, v7, hw7, hu7, hv7⟩
    have HW7 := Lib.hid hw7
    have HU7 := Lib.hid (HU6.out.new (S := WrS a2 (.slice none 0 0)) (by rintro k (rfl | hk); exact HA6.out; simp [Value.ownBlock] at hk) hu7)
    clear hw7 hu7 hv7
    go_wp2_with fail
    refine (done_any a2 _ _ _ HW7.out (by have := HL.out; simp at this ⊢; omega)).mono ?_
    rintro e w8 ⟨v8, rfl, ho8, hu8⟩
    have HB8 := Lib.hid (Bytes_own ho8)
    have HU8 := Lib.hid (HU7.out.trans' hu8)
    clear ho8 hu8
    go_wp2_with fail
    refine (newReader_any v8 _ _ HB8.out (by have := HL.out; simp at this ⊢; omega)).mono ?_
    rintro e w9 ⟨b9, vs9, rfl, hb9, _, hr9, hu9⟩
    have hnb9 := Nat.le_trans HU8.out.size hb9
    have HR9 := Lib.hid hr9
    have HU9 := Lib.hid (HU8.out.trans' hu9)
    have HB9 := Lib.hid hnb9
    clear hr9 hu9 hb9 hnb9
    go_wp2_with fail
    refine (rtext_any b9 vs9 _ long _ HR9.out (by omega)).mono ?_
    intro e w10 hp
    have ht := text_enc s [] [] long (by omega)
    unfold TextP at hp
    rw [show [] ++ encN s.size ++ s.data.toList = [] ++ (encN s.size ++ (s.data.toList ++ [])) by simp, show (⟨[] ++ (encN s.size ++ (s.data.toList ++ [])), 0, 0, 0⟩ : RS) = ⟨[] ++ (encN s.size ++ (s.data.toList ++ [])), ([] : List UInt8).length, 0, 0⟩ from rfl, ht] at hp
    clear ht
    rw [if_pos (by omega)] at hp
    obtain ⟨rfl, hr10, hu10⟩ := hp
    have HR10 := Lib.hid hr10
    have HU10 := Lib.hid (HU9.out.new (fun k (h : k = b9) => h ▸ HB9.out) hu10)
    clear hr10 hu10
    go_wp2_with fail
    refine (rend_any b9 vs9 _ _ HR10.out).mono ?_
    intro e w11 hp
    rw [fin_three] at hp
    obtain ⟨rfl, n11, rfl⟩ := hp
    have c1 : decide ((s.size : Int) ≤ long) = false := by simp; omega
    go_wp2_with fail
    refine (known_any _).mono ?_
    rintro e w12 ⟨rfl, hu12⟩
    have HU12 := Lib.hid hu12
    clear hu12
    go_wp2
    go_ret
    exact ⟨rfl, (HU10.out.drewN n11).trans' HU12.out⟩

set_option maxHeartbeats 1600000 in
set_option maxRecDepth 100000 in
theorem most_fits (n most long : Int) (s : ByteArray) (w : World) (hn : U64 n) (hm : U64 most) (hs : s.size ≤ 140737488351232) (hl : -9223372036854775808 ≤ long ∧ long ≤ 9223372036854775807) (h1 : 0 ≤ long) (h2 : (s.size : Int) ≤ long) :
    Calls Try.prog 6 #[.int .u64 n, .int .u64 most, .string s, .int .i64 long] w (TrueP w) := by
  obtain ⟨hn0, hn1⟩ := hn
  obtain ⟨hm0, hm1⟩ := hm
  obtain ⟨hl0, hl1⟩ := hl
  have HL : Hid ((encN s.size).length ≤ 10) := by have := encN_u64 (n := (s.size : Int)) ⟨by omega, by omega⟩; rwa [show (s.size : Int).toNat = s.size by omega] at this
  have HL1 : Hid ((encN n.toNat).length ≤ 10) := encN_u64 ⟨hn0, hn1⟩
  go_enter Try.func6, Try.ntmps6
  go_wp2_with fail
  refine (newWriter_any _).mono ?_
  rintro e w1 ⟨a, rfl, ha, hw1, hu1⟩
  have HW1 := Lib.hid hw1
  have HA := Lib.hid ha
  have HU1 := Lib.hid hu1
  clear hw1 ha hu1
  go_wp2_with fail
  refine (number_any a _ [] n _ HW1.out ⟨hn0, hn1⟩ (by simp)).mono ?_
  rintro e w2 ⟨rfl, v2, hw2, hu2, hv2⟩
  have HW2 := Lib.hid hw2
  have HU2 := Lib.hid (HU1.out.new (S := WrS a (.slice none 0 0)) (by rintro k (rfl | hk); exact HA.out; simp [Value.ownBlock] at hk) hu2)
  clear hw2 hu2 hv2
  go_wp2_with fail
  refine (done_any a _ _ _ HW2.out (by have := HL1.out; simp; omega)).mono ?_
  rintro e w3 ⟨v3, rfl, ho3, hu3⟩
  have HB3 := Lib.hid (Bytes_own ho3)
  have HU3 := Lib.hid (HU2.out.trans' hu3)
  clear ho3 hu3
  go_wp2_with fail
  refine (newReader_any v3 _ _ HB3.out (by have := HL1.out; simp; omega)).mono ?_
  rintro e w4 ⟨b4, vs4, rfl, hb4, _, hr4, hu4⟩
  have hnb4 := Nat.le_trans HU3.out.size hb4
  have HR4 := Lib.hid hr4
  have HU4 := Lib.hid (HU3.out.trans' hu4)
  have HB4 := Lib.hid hnb4
  clear hr4 hu4 hb4 hnb4
  go_wp2_with fail
  refine (rnum_any b4 vs4 _ most _ HR4.out).mono ?_
  intro e w5 hp
  have ht := number_enc n.toNat [] [] most (by omega)
  unfold RNumP at hp
  rw [show [] ++ encN n.toNat = [] ++ (encN n.toNat ++ []) by simp, show (⟨[] ++ (encN n.toNat ++ []), 0, 0, 0⟩ : RS) = ⟨[] ++ (encN n.toNat ++ []), ([] : List UInt8).length, 0, 0⟩ from rfl, ht] at hp
  clear ht
  by_cases hA : most < n
  · rw [if_pos (by omega)] at hp
    obtain ⟨rfl, hr5, hu5⟩ := hp
    have HR5 := Lib.hid hr5
    have HU5 := Lib.hid (HU4.out.new (fun k (h : k = b4) => h ▸ HB4.out) hu5)
    clear hr5 hu5
    go_wp2_with fail
    refine (rend_any b4 vs4 _ _ HR5.out).mono ?_
    intro e w5' hp
    rw [fin_three] at hp
    obtain ⟨rfl, n5, hw5⟩ := hp
    have HU5' := Lib.hid (show Upd (fun _ => False) w w5' by rw [hw5]; exact HU5.out.drewN n5)
    clear hw5 HU5
    have HU5 := HU5'
    go_wp2_with fail
    refine (newWriter_any _).mono ?_
    rintro e w6 ⟨a2, rfl, ha2, hw6, hu6⟩
    have HW6 := Lib.hid hw6
    have HA6 := Lib.hid (Nat.le_trans HU5.out.size ha2)
    have HU6 := Lib.hid (HU5.out.trans' hu6)
    clear hw6 ha2 hu6
    go_wp2_with fail
    refine (wtext_any a2 _ s [] _ HW6.out (by simp; omega)).mono ?_
    rintro e w7 ⟨rfl, v7, hw7, hu7, hv7⟩
    have HW7 := Lib.hid hw7
    have HU7 := Lib.hid (HU6.out.new (S := WrS a2 (.slice none 0 0)) (by rintro k (rfl | hk); exact HA6.out; simp [Value.ownBlock] at hk) hu7)
    clear hw7 hu7 hv7
    go_wp2_with fail
    refine (done_any a2 _ _ _ HW7.out (by have := HL.out; simp at this ⊢; omega)).mono ?_
    rintro e w8 ⟨v8, rfl, ho8, hu8⟩
    have HB8 := Lib.hid (Bytes_own ho8)
    have HU8 := Lib.hid (HU7.out.trans' hu8)
    clear ho8 hu8
    go_wp2_with fail
    refine (newReader_any v8 _ _ HB8.out (by have := HL.out; simp at this ⊢; omega)).mono ?_
    rintro e w9 ⟨b9, vs9, rfl, hb9, _, hr9, hu9⟩
    have hnb9 := Nat.le_trans HU8.out.size hb9
    have HR9 := Lib.hid hr9
    have HU9 := Lib.hid (HU8.out.trans' hu9)
    have HB9 := Lib.hid hnb9
    clear hr9 hu9 hb9 hnb9
    go_wp2_with fail
    refine (rtext_any b9 vs9 _ long _ HR9.out (by omega)).mono ?_
    intro e w10 hp
    have ht := text_enc s [] [] long (by omega)
    unfold TextP at hp
    rw [show [] ++ encN s.size ++ s.data.toList = [] ++ (encN s.size ++ (s.data.toList ++ [])) by simp, show (⟨[] ++ (encN s.size ++ (s.data.toList ++ [])), 0, 0, 0⟩ : RS) = ⟨[] ++ (encN s.size ++ (s.data.toList ++ [])), ([] : List UInt8).length, 0, 0⟩ from rfl, ht] at hp
    clear ht
    rw [if_neg (by omega), strOf_self] at hp
    obtain ⟨rfl, hr10, hu10⟩ := hp
    have HR10 := Lib.hid hr10
    have HU10 := Lib.hid (HU9.out.new (fun k (h : k = b9) => h ▸ HB9.out) hu10)
    clear hr10 hu10
    go_wp2_with fail
    refine (rend_any b9 vs9 _ _ HR10.out).mono ?_
    intro e w11 hp
    rw [fin_done _ _ (by simp)] at hp
    obtain ⟨rfl, n11, rfl⟩ := hp
    skip
    go_wp2_with fail
    refine (known_any _).mono ?_
    rintro e w12 ⟨rfl, hu12⟩
    have HU12 := Lib.hid hu12
    clear hu12
    go_wp2
    go_ret
    exact ⟨rfl, (HU10.out.drewN n11).trans' HU12.out⟩
  · rw [if_neg (by omega)] at hp
    obtain ⟨rfl, hr5, hu5⟩ := hp
    have HR5 := Lib.hid hr5
    have HU5 := Lib.hid (HU4.out.new (fun k (h : k = b4) => h ▸ HB4.out) hu5)
    have en : (n.toNat : Int) = n := by omega
    rw [en]
    clear hr5 hu5 en
    go_wp2_with fail
    refine (rend_any b4 vs4 _ _ HR5.out).mono ?_
    intro e w5' hp
    rw [fin_done _ _ (by simp)] at hp
    obtain ⟨rfl, n5, hw5⟩ := hp
    have HU5' := Lib.hid (show Upd (fun _ => False) w w5' by rw [hw5]; exact HU5.out.drewN n5)
    have en : (n != n) = false := by simp
    clear hw5 HU5
    have HU5 := HU5'
    go_wp2_with fail
    refine (newWriter_any _).mono ?_
    rintro e w6 ⟨a2, rfl, ha2, hw6, hu6⟩
    have HW6 := Lib.hid hw6
    have HA6 := Lib.hid (Nat.le_trans HU5.out.size ha2)
    have HU6 := Lib.hid (HU5.out.trans' hu6)
    clear hw6 ha2 hu6
    go_wp2_with fail
    refine (wtext_any a2 _ s [] _ HW6.out (by simp; omega)).mono ?_
    rintro e w7 ⟨rfl, v7, hw7, hu7, hv7⟩
    have HW7 := Lib.hid hw7
    have HU7 := Lib.hid (HU6.out.new (S := WrS a2 (.slice none 0 0)) (by rintro k (rfl | hk); exact HA6.out; simp [Value.ownBlock] at hk) hu7)
    clear hw7 hu7 hv7
    go_wp2_with fail
    refine (done_any a2 _ _ _ HW7.out (by have := HL.out; simp at this ⊢; omega)).mono ?_
    rintro e w8 ⟨v8, rfl, ho8, hu8⟩
    have HB8 := Lib.hid (Bytes_own ho8)
    have HU8 := Lib.hid (HU7.out.trans' hu8)
    clear ho8 hu8
    go_wp2_with fail
    refine (newReader_any v8 _ _ HB8.out (by have := HL.out; simp at this ⊢; omega)).mono ?_
    rintro e w9 ⟨b9, vs9, rfl, hb9, _, hr9, hu9⟩
    have hnb9 := Nat.le_trans HU8.out.size hb9
    have HR9 := Lib.hid hr9
    have HU9 := Lib.hid (HU8.out.trans' hu9)
    have HB9 := Lib.hid hnb9
    clear hr9 hu9 hb9 hnb9
    go_wp2_with fail
    refine (rtext_any b9 vs9 _ long _ HR9.out (by omega)).mono ?_
    intro e w10 hp
    have ht := text_enc s [] [] long (by omega)
    unfold TextP at hp
    rw [show [] ++ encN s.size ++ s.data.toList = [] ++ (encN s.size ++ (s.data.toList ++ [])) by simp, show (⟨[] ++ (encN s.size ++ (s.data.toList ++ [])), 0, 0, 0⟩ : RS) = ⟨[] ++ (encN s.size ++ (s.data.toList ++ [])), ([] : List UInt8).length, 0, 0⟩ from rfl, ht] at hp
    clear ht
    rw [if_neg (by omega), strOf_self] at hp
    obtain ⟨rfl, hr10, hu10⟩ := hp
    have HR10 := Lib.hid hr10
    have HU10 := Lib.hid (HU9.out.new (fun k (h : k = b9) => h ▸ HB9.out) hu10)
    clear hr10 hu10
    go_wp2_with fail
    refine (rend_any b9 vs9 _ _ HR10.out).mono ?_
    intro e w11 hp
    rw [fin_done _ _ (by simp)] at hp
    obtain ⟨rfl, n11, rfl⟩ := hp
    skip
    go_wp2_with fail
    refine (known_any _).mono ?_
    rintro e w12 ⟨rfl, hu12⟩
    have HU12 := Lib.hid hu12
    clear hu12
    go_wp2
    go_ret
    exact ⟨rfl, (HU10.out.drewN n11).trans' HU12.out⟩

theorem most_any (n most long : Int) (s : ByteArray) (w : World) (hn : (Lit.int .u64 n).wf = true) (hm : (Lit.int .u64 most).wf = true) (hs : s.size ≤ 140737488351232) (hl : (Lit.int .i64 long).wf = true) :
    Calls Try.prog 6 #[.int .u64 n, .int .u64 most, .string s, .int .i64 long] w fun e w' => e = .returned (.bool true) ∧ Below w.heap.size w w' := by
  have hn' := wf_u64 hn
  have hm' := wf_u64 hm
  have hl' := wf_i64 hl
  by_cases h1 : long < 0
  · by_cases h2 : 0 < s.size
    · exact (most_negTooLong n most long s w hn' hm' hs hl' h1 h2).mono fun _ _ h => h.below
    · exact (most_negFits n most long s w hn' hm' hs hl' h1 (by omega)).mono fun _ _ h => h.below
  · by_cases h2 : long < s.size
    · exact (most_tooLong n most long s w hn' hm' hs hl' (by omega) h2).mono fun _ _ h => h.below
    · exact (most_fits n most long s w hn' hm' hs hl' (by omega) (by omega)).mono fun _ _ h => h.below
end Go.Proofs.Ytbpeoclhabgcgaa
