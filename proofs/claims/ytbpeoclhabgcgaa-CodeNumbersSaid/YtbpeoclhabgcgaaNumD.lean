import Derived.Test.YtbpeoclhabgcgaaNumC
/-
  CHAPTER 13'S RUNS: Encode of the two instructions that are written.
-/
namespace Go.Proofs.Ytbpeoclhabgcgaa
open Go.RowKit
set_option linter.unusedVariables false
set_option linter.unusedSimpArgs false
def EncOk (m : List UInt8) (w : World) (e : Ending) (w' : World) : Prop := ∃ V, e = .returned (.tuple #[V, .int .i64 0]) ∧ Bytes w' V m ∧ Upd (fun _ => False) w w'
set_option maxHeartbeats 16000000 in
set_option maxRecDepth 100000 in
theorem enc_ok (k : Nat) (w : World) (h : Row w k 83 [.int .i64 0, .int .i64 1, .int .i64 0, .int .i64 0, .complex .f64 4613937818241073152 13830554455654793216, .string ⟨#[]⟩, .slice none 0 0, .int .i64 3, .int .i64 15, .int .i64 0, .int .i64 0, .complex .f64 0 0, .string ⟨#[]⟩, .slice none 0 0]) :
    Calls Try.prog 49 #[.slice (some ⟨k, 0, none⟩) 2 2] w (EncOk [1, 6, 1, 15] w) := by
  have HK := Lib.hid h
  have c0 := h.get (i := 0) rfl
  have c1 := h.get (i := 1) rfl
  have c2 := h.get (i := 2) rfl
  have c3 := h.get (i := 3) rfl
  have c4 := h.get (i := 4) rfl
  have c5 := h.get (i := 5) rfl
  have c6 := h.get (i := 6) rfl
  clear h
  obtain ⟨i0, hi, hz0, hz1, hz2⟩ := info_parts Try.info5
  go_enter Try.func49, Try.ntmps49
  go_wp2_with fail
  refine wp_loop_rounds 3 ?_
  rw [rounds_succ]
  go_wp2_with fail
  refine (formed_push _).mono ?_
  rintro e wa1 ⟨rfl, hua⟩
  have hra : Row wa1 w.heap.size 83 [.int .i64 0, .int .i64 1, .int .i64 0, .int .i64 0, .complex .f64 4613937818241073152 13830554455654793216, .string ⟨#[]⟩, .slice none 0 0] := Row.upd (heap_alloc_new w _) hua (fun e => e)
  have HRa := Lib.hid hra
  have HUa := Lib.hid (((Upd.refl (fun _ => False) w).alloc (.cells #[.int .i64 0, .int .i64 1, .int .i64 0, .int .i64 0, .complex .f64 4613937818241073152 13830554455654793216, .string ⟨#[]⟩, .slice none 0 0] 83)).trans' hua)
  have d0 := hra.get (i := 0) rfl
  have d1 := hra.get (i := 1) rfl
  have d2 := hra.get (i := 2) rfl
  have d3 := hra.get (i := 3) rfl
  have d4 := hra.get (i := 4) rfl
  have d5 := hra.get (i := 5) rfl
  have d6 := hra.get (i := 6) rfl
  clear hra hua c0 c1 c2 c3 c4 c5 c6
  go_wp2_with fail
  refine (size_push _).mono ?_
  rintro e wb1 ⟨rfl, hub⟩
  have hrb : Row wb1 w.heap.size 83 [.int .i64 0, .int .i64 1, .int .i64 0, .int .i64 0, .complex .f64 4613937818241073152 13830554455654793216, .string ⟨#[]⟩, .slice none 0 0] := HRa.out.upd hub (fun e => e)
  have HUb := Lib.hid (HUa.out.trans' hub)
  clear hub d0 d1 d2 d3 d4 d5 d6
  have d0 := hrb.get (i := 0) rfl
  have d1 := hrb.get (i := 1) rfl
  have d2 := hrb.get (i := 2) rfl
  have d3 := hrb.get (i := 3) rfl
  have d4 := hrb.get (i := 4) rfl
  have d5 := hrb.get (i := 5) rfl
  have d6 := hrb.get (i := 6) rfl
  clear hrb
  go_wp2_with fail
  refine wp_loop_rounds 1 ?_
  rw [rounds_succ]
  go_wp2_with fail
  refine (write_push 0 _).mono ?_
  rintro e wc1 ⟨V1, rfl, hv, huc⟩
  have HV := Lib.hid hv
  have HUc := Lib.hid (HUb.out.trans' huc)
  clear hv huc d0 d1 d2 d3 d4 d5 d6
  go_wp2_with (at_builtin; go_loud (refine wpList_append_src_own _ rfl (.tmp 53) (.tmp 56) 27 27 rfl w.heap.size 5 i0 (.int .u8 0) 1 1 Try.underlying27 hi hz0 hz1 hz2 rfl (.slice none 0 0) 0 [] rfl (World.ownsRow_nil _ _ _ _) _ 3 (bytesV [1, 6, 1]) rfl (Src.ofBytes Try.underlying27 HV.out) (by unfold maxLen; omega) (by omega) HUc.out.size ?c5))
  case c5 =>
  intro o1 wd1 hown hgrow hnew hshape
  have HUd := Lib.hid (HUc.out.grown hgrow (fun k hk _ => by simp [Value.ownBlock] at hk))
  have HO := Lib.hid (show wd1.ownsRow w.heap.size 5 1 o1 3 (bytesV [1, 6, 1]) from hown)
  obtain ⟨ao1, cap1, rfl, _, _⟩ := Bytes_own HO.out
  have hk := HK.out.upd HUd.out (fun e => e)
  have c7 := hk.get (i := 7) rfl
  have c8 := hk.get (i := 8) rfl
  have c9 := hk.get (i := 9) rfl
  have c10 := hk.get (i := 10) rfl
  have c11 := hk.get (i := 11) rfl
  have c12 := hk.get (i := 12) rfl
  have c13 := hk.get (i := 13) rfl
  clear hown hgrow hnew hshape hk
  go_wp2_with fail
  rw [rounds_succ]
  go_wp2_with fail
  refine (formed_ret 3 _).mono ?_
  rintro e wa2 ⟨rfl, hua⟩
  have hra : Row wa2 wd1.heap.size 83 [.int .i64 3, .int .i64 15, .int .i64 0, .int .i64 0, .complex .f64 0 0, .string ⟨#[]⟩, .slice none 0 0] := Row.upd (heap_alloc_new wd1 _) hua (fun e => e)
  have HRa := Lib.hid hra
  have HUa := Lib.hid (((Upd.refl (fun _ => False) wd1).alloc (.cells #[.int .i64 3, .int .i64 15, .int .i64 0, .int .i64 0, .complex .f64 0 0, .string ⟨#[]⟩, .slice none 0 0] 83)).trans' hua)
  have d0 := hra.get (i := 0) rfl
  have d1 := hra.get (i := 1) rfl
  have d2 := hra.get (i := 2) rfl
  have d3 := hra.get (i := 3) rfl
  have d4 := hra.get (i := 4) rfl
  have d5 := hra.get (i := 5) rfl
  have d6 := hra.get (i := 6) rfl
  clear hra hua
  go_wp2_with fail
  refine (size_ret 3 _).mono ?_
  rintro e wb2 ⟨rfl, hub⟩
  have hrb : Row wb2 wd1.heap.size 83 [.int .i64 3, .int .i64 15, .int .i64 0, .int .i64 0, .complex .f64 0 0, .string ⟨#[]⟩, .slice none 0 0] := HRa.out.upd hub (fun e => e)
  have HUb := Lib.hid (HUa.out.trans' hub)
  clear hub d0 d1 d2 d3 d4 d5 d6
  have d0 := hrb.get (i := 0) rfl
  have d1 := hrb.get (i := 1) rfl
  have d2 := hrb.get (i := 2) rfl
  have d3 := hrb.get (i := 3) rfl
  have d4 := hrb.get (i := 4) rfl
  have d5 := hrb.get (i := 5) rfl
  have d6 := hrb.get (i := 6) rfl
  clear hrb
  go_wp2_with fail
  refine wp_loop_rounds 1 ?_
  rw [rounds_succ]
  go_wp2_with fail
  refine (write_ret 3 _).mono ?_
  rintro e wc2 ⟨V2, rfl, hv, huc⟩
  have HV := Lib.hid hv
  have HUc := Lib.hid (HUb.out.trans' huc)
  clear hv huc d0 d1 d2 d3 d4 d5 d6
  go_wp2_with (at_builtin; go_loud (refine wpList_append_src_own _ rfl (.tmp 53) (.tmp 56) 27 27 rfl w.heap.size 5 i0 (.int .u8 0) 1 1 Try.underlying27 hi hz0 hz1 hz2 rfl (.slice ao1 3 cap1) 3 (bytesV [1, 6, 1]) rfl (ownsRow_upd HO.out HUc.out (fun _ _ e => e)) _ 1 (bytesV [15]) rfl (Src.ofBytes Try.underlying27 HV.out) (by unfold maxLen; omega) (by omega) (Nat.le_trans HUd.out.size HUc.out.size) ?c6))
  case c6 =>
  intro o2 wd2 hown hgrow hnew hshape
  have HU2 := Lib.hid ((HUd.out.trans' HUc.out).grown hgrow (fun k hk hlt => by have := (own_ge HO.out hk).1; omega))
  have HO2 := Lib.hid (show wd2.ownsRow w.heap.size 5 1 o2 4 (bytesV [1, 6, 1, 15]) from hown)
  obtain ⟨ao2, cap2, rfl, _, _⟩ := Bytes_own HO2.out
  clear hown hgrow hnew hshape
  go_wp2_with fail
  rw [rounds_succ]
  go_wp2_with fail
  go_ret2
  exact ⟨_, rfl, Bytes_own HO2.out, HU2.out⟩
end Go.Proofs.Ytbpeoclhabgcgaa
