import Derived.Test.YtbpeoclhabgcgaaTrip
namespace Go.Proofs.Ytbpeoclhabgcgaa
open Go.RowKit
set_option linter.unusedVariables false
set_option linter.unusedSimpArgs false

theorem own_empty (w : World) : (w.alloc (.cells #[] 5)).ownsRow w.heap.size 5 1 (.slice (some ⟨w.heap.size, 0, none⟩) 0 0) 0 [] :=
  ⟨rfl, .inr ⟨w.heap.size, 0, #[], rfl, Nat.le_refl _, heap_alloc_new w _, Nat.le_refl _, by simp [maxLen], rfl, rfl⟩⟩

set_option maxHeartbeats 1000000 in
set_option maxRecDepth 100000 in
theorem fwnumber_any (v : Value) (l : List UInt8) (n : Int) (w : World) (hb : Bytes w v l) (hn : U64 n) (hl : l.length + 16 ≤ 140737488355328) :
    Calls Try.prog 17 #[v, .int .u64 n] w (Cloned (l ++ encN n.toNat) w) := by
  obtain ⟨i0, hi, hz0, hz1, hz2⟩ := info_parts Try.info5
  have HB := Lib.hid hb
  have HN := Lib.hid (encN_u64 hn)
  obtain ⟨ao, cap, rfl, _⟩ := hb
  go_enter Try.func17, Try.ntmps17
  go_wp2_with (at_builtin; go_must (refine wpList_append_src_own _ rfl (.tmp 6) (.tmp 7) 27 27 rfl w.heap.size 5 i0 (.int .u8 0) 1 1 Try.underlying27 hi hz0 hz1 hz2 rfl _ 0 [] rfl (own_empty w) _ l.length (bytesV l) rfl (Src.ofBytes Try.underlying27 (Bytes_upd HB.out ((Upd.refl (fun _ => False) w).alloc _) (fun _ _ h => h))) (by unfold maxLen; omega) (by omega) (by simp) ?c5))
  case c5 =>
  intro v1 w1 hown hgrow hnew hshape
  have HO := Lib.hid hown
  have HU : Hid (Upd (fun _ => False) w w1) := ((Upd.refl (fun _ => False) w).alloc _).grown hgrow (fun j hj hlt => by simp [Value.ownBlock] at hj; omega)
  clear hown hgrow hnew hshape
  go_wp2_with fail
  go_loopw [1, 5] (fun x t wr => ∃ (m : Int) (l' : List UInt8) (vt : Value), x = .int .u64 m ∧ vt = t ∧ U64 m ∧ wr.ownsRow w.heap.size 5 1 vt l'.length (bytesV l') ∧ l ++ encN n.toNat = l' ++ encN m.toNat ∧ Upd (fun _ => False) w wr) (fun x _ _ => (intOf x).toNat)
  case atStart => exact ⟨n, l, v1, rfl, rfl, hn, HO.out, rfl, HU.out⟩
  case round =>
    obtain ⟨m, l', vt, rfl, rfl, hm, ho, he, hu⟩ := hrel
    have HOr := Lib.hid ho
    have HUr := Lib.hid hu
    have HE := Lib.hid he
    have hlen : l'.length + 1 ≤ 140737488355328 := by
      have h1 := congrArg List.length he
      rw [List.length_append, List.length_append] at h1
      have := encN_pos m.toNat
      have := HN.out
      omega
    obtain ⟨hm0, hm1⟩ := hm
    have hsz := HUr.out.size
    clear ho hu he
    by_cases h : 128 ≤ m
    · have hb : byteV (UInt8.ofNat (m.toNat % 128 + 128)) = .int .u8 (m % 128 + 128) := by rw [byteV_ofNat _ (by omega)]; congr 1; omega
      have HBy := Lib.hid hb
      clear hb
      go_wp2_with (at_builtin; go_must (refine wpList_append_src_own _ rfl (.tmp 11) (.tmp 16) 27 27 rfl w.heap.size 5 i0 (.int .u8 0) 1 1 Try.underlying27 hi hz0 hz1 hz2 rfl vt _ _ rfl (HOr.out.alloc _) _ 1 [.int .u8 (m % 128 + 128)] rfl (Src.ofSlice _ Try.underlying27 _ _ _ _ rfl (World.news_of_block (heap_alloc_new wr _)) (fun u hu => by simp at hu; subst hu; rfl)) (by unfold maxLen; omega) (by omega) (by simp; omega) ?c5))
      case c5 =>
      intro v2 w2 hown hgrow hnew hshape
      have e1 : encN m.toNat = UInt8.ofNat (m.toNat % 128 + 128) :: encN (m / 128).toNat := by
        rw [encN_big (by omega), show (m / 128).toNat = m.toNat / 128 by omega]
      have HU2 : Hid (Upd (fun _ => False) w w2) := (HUr.out.alloc _).grown hgrow (fun j hj hlt => by have := (HOr.out.lt j hj).1; omega)
      have HO2 : Hid (w2.ownsRow w.heap.size 5 1 v2 (l' ++ [UInt8.ofNat (m.toNat % 128 + 128)]).length (bytesV (l' ++ [UInt8.ofNat (m.toNat % 128 + 128)]))) := by
        rw [List.length_append, bytesV_append]
        show w2.ownsRow _ 5 1 v2 (l'.length + 1) (bytesV l' ++ [byteV (UInt8.ofNat (m.toNat % 128 + 128))])
        rw [HBy.out]
        exact hown
      have HE2 : Hid (l ++ encN n.toNat = (l' ++ [UInt8.ofNat (m.toNat % 128 + 128)]) ++ encN (m / 128).toNat) := by
        show _ = _
        rw [HE.out, e1]; simp
      clear hown hgrow hnew hshape e1
      go_wp2_with fail
      go_roundw
      case rel => exact ⟨m / 128, _, _, rfl, rfl, ⟨by omega, by omega⟩, HO2.out, HE2.out, HU2.out⟩
      case measure => simp [intOf]; omega
    · have hb : byteV (UInt8.ofNat m.toNat) = .int .u8 m := by rw [byteV_ofNat _ (by omega)]; congr 1; omega
      have HBy := Lib.hid hb
      clear hb
      go_wp2_with (at_builtin; go_must (refine wpList_append_src_own _ rfl (.tmp 20) (.tmp 23) 27 27 rfl w.heap.size 5 i0 (.int .u8 0) 1 1 Try.underlying27 hi hz0 hz1 hz2 rfl vt _ _ rfl (HOr.out.alloc _) _ 1 [.int .u8 m] rfl (Src.ofSlice _ Try.underlying27 _ _ _ _ rfl (World.news_of_block (heap_alloc_new wr _)) (fun u hu => by simp at hu; subst hu; rfl)) (by unfold maxLen; omega) (by omega) (by simp; omega) ?c5))
      case c5 =>
      intro v2 w2 hown hgrow hnew hshape
      have e1 : encN m.toNat = [UInt8.ofNat m.toNat] := encN_small (by omega)
      have HU2 : Hid (Upd (fun _ => False) w w2) := (HUr.out.alloc _).grown hgrow (fun j hj hlt => by have := (HOr.out.lt j hj).1; omega)
      have HO2 : Hid (w2.ownsRow w.heap.size 5 1 v2 (l ++ encN n.toNat).length (bytesV (l ++ encN n.toNat))) := by
        rw [HE.out, e1, List.length_append, bytesV_append]
        show w2.ownsRow _ 5 1 v2 (l'.length + 1) (bytesV l' ++ [byteV (UInt8.ofNat m.toNat)])
        rw [HBy.out]
        exact hown
      clear hown hgrow hnew hshape e1
      go_wp2_with fail
      go_ret
      exact ⟨_, rfl, HO2.out, HU2.out⟩

set_option maxHeartbeats 1000000 in
set_option maxRecDepth 100000 in
theorem fwsigned_any (v : Value) (l : List UInt8) (n : Int) (w : World) (hb : Bytes w v l) (hn : -9223372036854775808 ≤ n ∧ n ≤ 9223372036854775807) (hl : l.length + 16 ≤ 140737488355328) :
    Calls Try.prog 19 #[v, .int .i64 n] w (Cloned (l ++ encN (zig n).toNat) w) := by
  have HB := Lib.hid hb
  obtain ⟨hn0, hn1⟩ := hn
  obtain ⟨ao, cap, rfl, _⟩ := hb
  have main : ∀ N : Int, U64 N → N = zig n → Calls Try.prog 17 #[.slice ao l.length cap, .int .u64 N] w (Cloned (l ++ encN (zig n).toNat) w) := fun N hN e => by
    rw [← e]; exact fwnumber_any _ l N w HB.out hN (by omega)
  have HM := Lib.hid main
  clear main
  by_cases h : n < 0
  · have hz : -(n + 1) * 2 + 1 = zig n := by unfold zig; rw [if_pos h]; omega
    have hw1 : IntKind.u64.wrap (-(n + 1)) = -(n + 1) := by rw [wrapU]; omega
    have hw2 : IntKind.u64.wrap (-(n + 1) * 2) = -(n + 1) * 2 := by rw [wrapU]; omega
    have HM2 := Lib.hid (HM.out _ ⟨by omega, by omega⟩ hz)
    clear hz
    generalize (zig n).toNat = N at *
    go_enter Try.func19, Try.ntmps19
    go_wp2_with fail
    refine HM2.out.mono ?_
    rintro e w1 ⟨v1, rfl, ho1, hu1⟩
    have HO := Lib.hid ho1
    have HU := Lib.hid hu1
    clear ho1 hu1
    go_wp2_with fail
    go_ret
    exact ⟨_, rfl, HO.out, HU.out⟩
  · have hz : n * 2 = zig n := by unfold zig; rw [if_neg h]; omega
    have HM2 := Lib.hid (HM.out _ ⟨by omega, by omega⟩ hz)
    clear hz
    generalize (zig n).toNat = N at *
    go_enter Try.func19, Try.ntmps19
    go_wp2_with fail
    refine HM2.out.mono ?_
    rintro e w1 ⟨v1, rfl, ho1, hu1⟩
    have HO := Lib.hid ho1
    have HU := Lib.hid hu1
    clear ho1 hu1
    go_wp2_with fail
    go_ret
    exact ⟨_, rfl, HO.out, HU.out⟩

set_option maxHeartbeats 1000000 in
set_option maxRecDepth 100000 in
theorem fwtext_any (v : Value) (l : List UInt8) (s : ByteArray) (w : World) (hb : Bytes w v l) (hl : l.length + s.size + 16 ≤ 140737488355328) :
    Calls Try.prog 21 #[v, .string s] w (Cloned (l ++ encN s.size ++ s.data.toList) w) := by
  obtain ⟨i0, hi, hz0, hz1, hz2⟩ := info_parts Try.info5
  have HB := Lib.hid hb
  have hs : U64 (s.size : Int) := ⟨by omega, by omega⟩
  have he := encN_u64 hs
  obtain ⟨ao, cap, rfl, _⟩ := hb
  go_enter Try.func21, Try.ntmps21
  go_wp2_with fail
  refine (fwnumber_any _ l _ _ HB.out hs (by omega)).mono ?_
  rintro e w1 ⟨v1, rfl, ho1, hu1⟩
  have e1 : (l ++ encN (s.size : Int).toNat).length + s.size ≤ 140737488355328 := by rw [List.length_append]; omega
  have e2 : l ++ encN (s.size : Int).toNat = l ++ encN s.size := by rw [show (s.size : Int).toNat = s.size by omega]
  rw [e2] at ho1 e1
  clear e2
  generalize e2 : l ++ encN s.size = l1 at ho1 e1 ⊢
  have HE2 := Lib.hid e2
  have HB2 := Lib.hid (byteCells_eq s)
  have HU := Lib.hid hu1
  have HO := Lib.hid ho1
  clear hu1 ho1 hs he hl
  go_wp2_with (at_builtin; go_must (refine wpList_append_src_own _ rfl (.tmp 9) (.tmp 10) 27 9 rfl w.heap.size 5 i0 (.int .u8 0) 1 1 Try.underlying27 hi hz0 hz1 hz2 rfl v1 _ _ rfl HO.out _ s.size (byteCells s) rfl (Src.ofString _ Try.underlying9 s) (by unfold maxLen; omega) (by omega) HU.out.size ?c5))
  case c5 =>
  intro v' w2 hown hgrow hnew hshape
  rw [HB2.out] at hown
  have HO2 : Hid (w2.ownsRow w.heap.size 5 1 v' (l1 ++ s.data.toList).length (bytesV (l1 ++ s.data.toList))) := by
    rw [List.length_append, bytesV_append, Array.length_toList]
    exact hown
  have HU2 : Hid (Upd (fun _ => False) w w2) := HU.out.grown hgrow (fun j hj hlt => by have := (HO.out.lt j hj).1; omega)
  clear hown hgrow hnew hshape
  go_wp2_with fail
  go_ret
  rw [HE2.out]
  exact ⟨_, rfl, HO2.out, HU2.out⟩
end Go.Proofs.Ytbpeoclhabgcgaa
