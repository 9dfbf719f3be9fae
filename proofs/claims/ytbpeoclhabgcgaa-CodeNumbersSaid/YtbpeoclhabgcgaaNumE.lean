import Derived.Test.YtbpeoclhabgcgaaNumD
/-
  CHAPTER 13'S RUNS: what comes of the few bytes that they read; Refs of the list that they ask.
-/
namespace Go.Proofs.Ytbpeoclhabgcgaa
open Go.RowKit
set_option linter.unusedVariables false
set_option linter.unusedSimpArgs false
theorem out_stop {l : List UInt8} {c : Int} {p n : Nat} {acc : List IV} (hl : l.length ≤ 2048) (h : runN l n = some (acc, p)) (hp : p < l.length) (hc : (oneR l p).1 = c) (h0 : c ≠ 0) : Out l [] c p :=
  .inr ⟨hl, n, acc, p, h, .inr ⟨hp, by rw [hc]; exact h0, rfl, hc.symm, rfl⟩⟩
theorem out_zero : Out [0] [] 12 0 := out_stop (n := 0) (p := 0) (by decide) rfl (by decide) (by kernel_rfl) (by decide)
theorem out_nil : Out [] [] 0 0 := .inr ⟨by decide, 0, [], 0, rfl, .inl ⟨rfl, rfl, rfl, rfl⟩⟩
theorem out_call : Out [15, 11, 0, 1] [] 12 1 := out_stop (n := 1) (p := 1) (acc := [(oneR [15, 11, 0, 1] 0).2.2]) (by decide) (by kernel_rfl) (by decide) (by kernel_rfl) (by decide)
theorem out_switch : Out [10, 7, 0, 0] [] 12 0 := out_stop (n := 0) (p := 0) (by decide) rfl (by decide) (by kernel_rfl) (by decide)
theorem out_cut : Out [5] [] 10 0 := out_stop (n := 0) (p := 0) (by decide) rfl (by decide) (by kernel_rfl) (by decide)
theorem out_jump : Out [5, 0, 0] [⟨0, 5, 0, 0, 0, 0, [], [3]⟩] 0 0 := .inr ⟨by decide, 1, _, 3, by kernel_rfl, .inl ⟨rfl, rfl, rfl, rfl⟩⟩
theorem out_long (l : List UInt8) (h : 2048 < l.length) : Out l [] 3 0 := .inl ⟨h, rfl, rfl, rfl⟩
/-- What code.Decode answers, if one knows what must come. -/
theorem dec_is {v : Value} {l : List UInt8} {w : World} (hb : Bytes w v l) (h63 : l.length ≤ 9223372036854775807) {L : List IV} {c p : Int} (ho : Out l L c p) :
    Calls Try.prog 43 #[v] w fun e w' => Upd (fun _ => False) w w' ∧ ∃ V, IL w' V L ∧ e = .returned (.tuple #[V, .int .i64 c, .int .i64 p]) := by
  refine (cdec_any v l w hb h63).mono ?_
  rintro e w' ⟨hu, V, L', er, a, ho', hi, _, rfl⟩
  obtain ⟨rfl, rfl, rfl⟩ := ho.same ho'
  exact ⟨hu, V, hi, rfl⟩
theorem IL.len {w : World} {V : Value} {L : List IV} (h : IL w V L) : ∃ ao cap, V = .slice ao L.length cap := by
  obtain ⟨ao, cap, rfl, _⟩ := h; exact ⟨_, _, rfl⟩
theorem ints_src2 {tx : TypeId} (ht : Try.prog.underlying tx = some (.slice 3)) (w : World) (o : Obj) (z : Int) : Src Try.prog 1 tx (.slice (some ⟨w.heap.size + 1, 0, none⟩) 1 1) 1 [.int .i64 z] ((w.alloc o).alloc (.cells #[.int .i64 z] 3)) := by
  have := ints_src ht (w := w.alloc o) z
  rw [World.size_alloc] at this
  exact this
set_option maxHeartbeats 16000000 in
set_option maxRecDepth 100000 in
theorem refs_run (k : Nat) (w : World) (h : Row w k 83 [.int .i64 0, .int .i64 11, .int .i64 0, .int .i64 0, .complex .f64 0 0, .string ⟨#[]⟩, .slice none 0 0, .int .i64 3, .int .i64 15, .int .i64 0, .int .i64 0, .complex .f64 0 0, .string ⟨#[]⟩, .slice none 0 0, .int .i64 4, .int .i64 9, .int .i64 0, .int .i64 0, .complex .f64 0 0, .string ⟨#[]⟩, .slice none 0 0]) :
    Calls Try.prog 51 #[.slice (some ⟨k, 0, none⟩) 3 3] w fun e w' => ∃ V, e = .returned V ∧ Ints w' V [1, 6] ∧ Upd (fun _ => False) w w' := by
  obtain ⟨i3, hi, hz0, hz1, hz2⟩ := info_parts Try.info3
  have HK := Lib.hid h
  have c0 := h.get (i := 0) rfl
  have c1 := h.get (i := 1) rfl
  have c2 := h.get (i := 2) rfl
  have c3 := h.get (i := 3) rfl
  have c4 := h.get (i := 4) rfl
  have c5 := h.get (i := 5) rfl
  have c6 := h.get (i := 6) rfl
  clear h
  go_enter Try.func51, Try.ntmps51
  go_wp2_with fail
  refine wp_loop_rounds 4 ?_
  rw [rounds_succ]
  go_wp2_with fail
  refine (takes_is _ (n := 1) (b := true) rfl rfl _).mono ?_
  rintro e wq ⟨rfl, rfl⟩
  have HS := Lib.hid (ints_src2 Try.underlying81 w (.cells #[.int .i64 0, .int .i64 11, .int .i64 0, .int .i64 0, .complex .f64 0 0, .string ⟨#[]⟩, .slice none 0 0] 83) 1)
  go_wp2_with (at_builtin; go_loud (refine wpList_append_src_own _ rfl (.tmp 21) (.tmp 26) 81 81 rfl w.heap.size 3 i3 (.int .i64 0) 1 8 Try.underlying81 hi hz0 hz1 hz2 rfl (.slice none 0 0) 0 [] rfl (World.ownsRow_nil _ _ _ _) _ 1 (intsV [1]) rfl HS.out (by unfold maxLen; omega) (by omega) (by simp; omega) ?k1))
  case k1 =>
  intro o1 w1 hown hgrow hnew hshape
  have HU := Lib.hid ((((Upd.refl (fun _ => False) w).alloc (.cells #[.int .i64 0, .int .i64 11, .int .i64 0, .int .i64 0, .complex .f64 0 0, .string ⟨#[]⟩, .slice none 0 0] 83)).alloc (.cells #[.int .i64 1] 3)).grown hgrow (fun k hk _ => by simp [Value.ownBlock] at hk))
  have HO := Lib.hid (show w1.ownsRow w.heap.size 3 1 o1 1 (intsV [1]) from hown)
  obtain ⟨ao1, cap1, rfl, _, _⟩ := own_form HO.out
  have hk := HK.out.upd HU.out (fun e => e)
  have c7 := hk.get (i := 7) rfl
  have c8 := hk.get (i := 8) rfl
  have c9 := hk.get (i := 9) rfl
  have c10 := hk.get (i := 10) rfl
  have c11 := hk.get (i := 11) rfl
  have c12 := hk.get (i := 12) rfl
  have c13 := hk.get (i := 13) rfl
  clear hown hgrow hnew hshape hk c0 c1 c2 c3 c4 c5 c6 HS
  go_wp2_with fail
  rw [rounds_succ]
  go_wp2_with fail
  refine (takes_is _ (n := 0) (b := false) rfl rfl _).mono ?_
  rintro e wq ⟨rfl, rfl⟩
  go_wp2_with fail
  rw [rounds_succ]
  have hu2 := (Upd.refl (fun _ => False) w1).alloc (.cells #[.int .i64 3, .int .i64 15, .int .i64 0, .int .i64 0, .complex .f64 0 0, .string ⟨#[]⟩, .slice none 0 0] 83)
  have HU2 := Lib.hid (HU.out.trans' hu2)
  have HO2 := Lib.hid (ownsRow_upd HO.out hu2 (fun _ _ e => e))
  clear hu2
  obtain ⟨w2, hw2⟩ : ∃ w2, w2 = w1.alloc (.cells #[.int .i64 3, .int .i64 15, .int .i64 0, .int .i64 0, .complex .f64 0 0, .string ⟨#[]⟩, .slice none 0 0] 83) := ⟨_, rfl⟩
  rw [← hw2] at HU2 HO2 ⊢
  have hk := HK.out.upd HU2.out (fun e => e)
  have c14 := hk.get (i := 14) rfl
  have c15 := hk.get (i := 15) rfl
  have c16 := hk.get (i := 16) rfl
  have c17 := hk.get (i := 17) rfl
  have c18 := hk.get (i := 18) rfl
  have c19 := hk.get (i := 19) rfl
  have c20 := hk.get (i := 20) rfl
  clear hk hw2 c7 c8 c9 c10 c11 c12 c13 HU HO
  go_wp2_with fail
  refine (takes_is _ (n := 2) (b := true) rfl rfl _).mono ?_
  rintro e wq ⟨rfl, rfl⟩
  have HS := Lib.hid (ints_src2 Try.underlying81 w2 (.cells #[.int .i64 4, .int .i64 9, .int .i64 0, .int .i64 0, .complex .f64 0 0, .string ⟨#[]⟩, .slice none 0 0] 83) 6)
  have HO3 := Lib.hid (ownsRow_upd HO2.out (((Upd.refl (fun _ => False) w2).alloc (.cells #[.int .i64 4, .int .i64 9, .int .i64 0, .int .i64 0, .complex .f64 0 0, .string ⟨#[]⟩, .slice none 0 0] 83)).alloc (.cells #[.int .i64 6] 3)) (fun _ _ e => e))
  have HWS := Lib.hid HU2.out.size
  go_wp2_with (at_builtin; go_loud (refine wpList_append_src_own _ rfl (.tmp 21) (.tmp 26) 81 81 rfl w.heap.size 3 i3 (.int .i64 0) 1 8 Try.underlying81 hi hz0 hz1 hz2 rfl (.slice ao1 1 cap1) 1 (intsV [1]) rfl HO3.out _ 1 (intsV [6]) rfl HS.out (by unfold maxLen; omega) (by omega) (by have := HWS.out; simp; omega) ?k2))
  case k2 =>
  intro o2 w3 hown hgrow hnew hshape
  have HU3 := Lib.hid (((HU2.out.alloc (.cells #[.int .i64 4, .int .i64 9, .int .i64 0, .int .i64 0, .complex .f64 0 0, .string ⟨#[]⟩, .slice none 0 0] 83)).alloc (.cells #[.int .i64 6] 3)).grown hgrow (fun k hk hlt => by have := (own_ge HO2.out hk).1; omega))
  have HO4 := Lib.hid (show w3.ownsRow w.heap.size 3 1 o2 2 (intsV [1, 6]) from hown)
  obtain ⟨ao2, cap2, rfl, _, _⟩ := own_form HO4.out
  clear hown hgrow hnew hshape
  go_wp2_with fail
  rw [rounds_succ]
  go_wp2_with fail
  go_ret
  exact ⟨_, rfl, Ints_own HO4.out, HU3.out⟩
end Go.Proofs.Ytbpeoclhabgcgaa
