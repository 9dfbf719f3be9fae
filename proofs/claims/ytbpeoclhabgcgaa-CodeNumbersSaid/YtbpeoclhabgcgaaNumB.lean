import Derived.Test.YtbpeoclhabgcgaaNumA
import Derived.LoopN
/-
  CHAPTER 13'S RUNS: write of the few instructions that they write.
-/
namespace Go.Proofs.Ytbpeoclhabgcgaa
open Go.RowKit
set_option linter.unusedVariables false
set_option linter.unusedSimpArgs false
theorem Bytes_new (w : World) (m : List UInt8) (hm : m.length ≤ maxLen) : Bytes (w.alloc (.cells (bytesV m).toArray 5)) (.slice (some ⟨w.heap.size, 0, none⟩) m.length m.length) m := by
  refine ⟨_, _, rfl, Nat.le_refl _, hm, .inr ⟨w.heap.size, 0, rfl, fun i hi => ?_⟩⟩
  rw [Nat.zero_add, cell_of_row _ _ i _ 5 (0, 0) (heap_alloc_new w _)]
  simp [bytesV, hi]
/-- A writer beside the box of the instruction that is written. -/
structure WB (w0 w : World) (k : Nat) (cs : List Value) (a : Nat) (v : Value) (l : List UInt8) : Prop where
  row : Row w k 83 cs
  wr : Wr w a v l
  ka : w0.heap.size ≤ k ∧ k < a
  upd : Upd (fun _ => False) w0 w
theorem WB.vlt {w0 w : World} {k a : Nat} {cs : List Value} {v : Value} {l : List UInt8} (h : WB w0 w k cs a v l) {j : Nat} (hj : v.ownBlock = some j) : a < j := by
  have := (own_ge h.wr.own hj).1; omega
theorem WB.keep {w0 w w' : World} {k a : Nat} {cs : List Value} {v : Value} {l : List UInt8} (h : WB w0 w k cs a v l) (hu : Upd (fun _ => False) w w') : WB w0 w' k cs a v l :=
  ⟨h.row.upd hu (fun e => e), h.wr.upd hu (fun _ _ _ e => e), h.ka, h.upd.trans' hu⟩
theorem WB.post {w0 w w' : World} {k a : Nat} {cs : List Value} {v : Value} {l m : List UInt8} (h : WB w0 w k cs a v l) (hp : WrPost a v m w w') : ∃ v', WB w0 w' k cs a v' m := by
  obtain ⟨v', h1, h2, h3⟩ := hp
  refine ⟨v', h.row.upd h2 ?_, h1, h.ka, h.upd.trans h2 ?_⟩
  · rintro (e | e)
    · have := h.ka; omega
    · have := h.vlt e; have := h.ka; omega
  · rintro i hi (e | e)
    · have := h.ka; omega
    · have := h.vlt e; have := h.ka; omega
theorem WB.start {w w' : World} {cs : List Value} {a : Nat} (ha : w.heap.size + 1 ≤ a) (hw : Wr w' a (.slice none 0 0) []) (hu : Upd (fun _ => False) (w.alloc (.cells cs.toArray 83)) w') : WB w w' w.heap.size cs a (.slice none 0 0) [] :=
  ⟨Row.upd (heap_alloc_new w _) hu (fun e => e), hw, ⟨Nat.le_refl _, by omega⟩, ((Upd.refl (fun _ => False) w).alloc _).trans' hu⟩
theorem wb_raw {w0 w : World} {k a : Nat} {cs : List Value} {v : Value} {l : List UInt8} (h : WB w0 w k cs a v l) (m : List UInt8) (hl : l.length ≤ 1000000) (hm : m.length ≤ 1000000) :
    Calls Try.prog 22 #[.pointer (some ⟨a, 0, none⟩), .slice (some ⟨w.heap.size, 0, none⟩) m.length m.length] (w.alloc (.cells (bytesV m).toArray 5)) fun e w' => e = .returned (.tuple #[]) ∧ ∃ v', WB w0 w' k cs a v' (l ++ m) := by
  have h2 := h.keep ((Upd.refl (fun _ => False) w).alloc (.cells (bytesV m).toArray 5))
  refine (wraw_any a v _ l m _ h2.wr (Bytes_new w m (by unfold maxLen; omega)) (by omega)).mono ?_
  rintro e w' ⟨rfl, hp⟩
  exact ⟨rfl, h2.post hp⟩
theorem wb_signed {w0 w : World} {k a : Nat} {cs : List Value} {v : Value} {l : List UInt8} (h : WB w0 w k cs a v l) (n : Int) (hn : -9223372036854775808 ≤ n ∧ n ≤ 9223372036854775807) (hl : l.length ≤ 1000000) (m : List UInt8) (hm : encN (zig n).toNat = m) :
    Calls Try.prog 18 #[.pointer (some ⟨a, 0, none⟩), .int .i64 n] w fun e w' => e = .returned (.tuple #[]) ∧ ∃ v', WB w0 w' k cs a v' (l ++ m) := by
  subst hm
  refine (wsigned_any a v n l w h.wr hn (by omega)).mono ?_
  rintro e w' ⟨rfl, hp⟩
  exact ⟨rfl, h.post hp⟩
theorem cv3 (w : World) : (convert 112 2 (.float .f64 4613937818241073152)).run Try.prog w = .ok (.int .i64 3) w := by kernel_rfl
theorem cvm1 (w : World) : (convert 112 2 (.float .f64 13830554455654793216)).run Try.prog w = .ok (.int .i64 (-1)) w := by kernel_rfl
def WriteP (m : List UInt8) (w : World) (e : Ending) (w' : World) : Prop := ∃ V, e = .returned V ∧ Bytes w' V m ∧ Upd (fun _ => False) w w'
theorem wb_done {w0 w : World} {k a : Nat} {cs : List Value} {v : Value} {l : List UInt8} (h : WB w0 w k cs a v l) (hl : l.length ≤ 1000000) : Calls Try.prog 15 #[.pointer (some ⟨a, 0, none⟩)] w (WriteP l w0) := by
  refine (done_any a v l w h.wr (by omega)).mono ?_
  rintro e w' ⟨v', rfl, h2, h3⟩
  exact ⟨v', rfl, Bytes_own h2, h.upd.trans' h3⟩
set_option maxHeartbeats 4000000 in
set_option maxRecDepth 100000 in
theorem write_ret (a0 : Int) (w : World) : Calls Try.prog 64 #[.agg #[.int .i64 a0, .int .i64 15, .int .i64 0, .int .i64 0, .complex .f64 0 0, .string ⟨#[]⟩, .slice none 0 0], .slice none 0 0] w (WriteP [15] w) := by
  go_enter Try.func64, Try.ntmps64
  go_wp2_with fail
  refine (newWriter_any _).mono ?_
  rintro e w1 ⟨a, rfl, ha, hw, hu⟩
  have H1 := Lib.hid (WB.start (by rwa [World.size_alloc] at ha) hw hu)
  clear hw hu ha
  have c1 := H1.out.row.get (i := 1) rfl
  go_wp2_with fail
  refine (wb_raw H1.out [15] (by simp) (by simp)).mono ?_
  rintro e w2 ⟨rfl, v2, h2⟩
  have H2 := Lib.hid h2
  clear h2 c1
  have c1 := H2.out.row.get (i := 1) rfl
  have c4 := H2.out.row.get (i := 4) rfl
  have c6 := H2.out.row.get (i := 6) rfl
  go_wp2_with fail
  refine (asks_is _ (a := false) (b := false) (n := 0) rfl rfl rfl _).mono ?_
  rintro e wq ⟨rfl, rfl⟩
  go_wp2_with fail
  refine (takes_is _ (n := 0) (b := false) rfl rfl _).mono ?_
  rintro e wq ⟨rfl, rfl⟩
  go_wp2_with fail
  refine wp_loop_rounds 1 ?_
  rw [rounds_succ]
  go_wp2_with fail
  refine (wb_done H2.out (by simp)).mono ?_
  rintro e w9 ⟨V, rfl, hb, hu⟩
  go_wp2_with fail
  go_ret
  exact ⟨V, rfl, hb, hu⟩
set_option maxHeartbeats 4000000 in
set_option maxRecDepth 100000 in
theorem write_push (a0 : Int) (w : World) : Calls Try.prog 64 #[.agg #[.int .i64 a0, .int .i64 1, .int .i64 0, .int .i64 0, .complex .f64 4613937818241073152 13830554455654793216, .string ⟨#[]⟩, .slice none 0 0], .slice none 0 0] w (WriteP [1, 6, 1] w) := by
  go_enter Try.func64, Try.ntmps64
  go_wp2_with fail
  refine (newWriter_any _).mono ?_
  rintro e w1 ⟨a, rfl, ha, hw, hu⟩
  have H1 := Lib.hid (WB.start (by rwa [World.size_alloc] at ha) hw hu)
  clear hw hu ha
  have c1 := H1.out.row.get (i := 1) rfl
  go_wp2_with fail
  refine (wb_raw H1.out [1] (by simp) (by simp)).mono ?_
  rintro e w2 ⟨rfl, v2, h2⟩
  have H2 := Lib.hid h2
  clear h2 c1
  have c1 := H2.out.row.get (i := 1) rfl
  have c4 := H2.out.row.get (i := 4) rfl
  have c6 := H2.out.row.get (i := 6) rfl
  go_wp2_with fail
  refine (asks_is _ (a := false) (b := false) (n := 0) rfl rfl rfl _).mono ?_
  rintro e wq ⟨rfl, rfl⟩
  go_wp2_with fail
  rw [cv3]
  go_wp2_with fail
  refine (wb_signed H2.out 3 (by decide) (by simp) [6] (by kernel_rfl)).mono ?_
  rintro e w3 ⟨rfl, v3, h3⟩
  have H3 := Lib.hid h3
  clear h3 c1 c4 c6
  have c1 := H3.out.row.get (i := 1) rfl
  have c4 := H3.out.row.get (i := 4) rfl
  have c6 := H3.out.row.get (i := 6) rfl
  go_wp2_with fail
  rw [cvm1]
  go_wp2_with fail
  refine (wb_signed H3.out (-1) (by decide) (by simp) [1] (by kernel_rfl)).mono ?_
  rintro e w4 ⟨rfl, v4, h4⟩
  have H4 := Lib.hid h4
  clear h4 c1 c4 c6
  have c1 := H4.out.row.get (i := 1) rfl
  have c4 := H4.out.row.get (i := 4) rfl
  have c6 := H4.out.row.get (i := 6) rfl
  go_wp2_with fail
  refine (takes_is _ (n := 0) (b := false) rfl rfl _).mono ?_
  rintro e wq ⟨rfl, rfl⟩
  go_wp2_with fail
  refine wp_loop_rounds 1 ?_
  rw [rounds_succ]
  go_wp2_with fail
  refine (wb_done H4.out (by simp)).mono ?_
  rintro e w9 ⟨V, rfl, hb, hu⟩
  go_wp2_with fail
  go_ret
  exact ⟨V, rfl, hb, hu⟩
set_option maxHeartbeats 4000000 in
set_option maxRecDepth 100000 in
theorem write_jump (a0 : Int) (g : Nat) (w : World) : Calls Try.prog 64 #[.agg #[.int .i64 a0, .int .i64 5, .int .i64 0, .int .i64 0, .complex .f64 0 0, .string ⟨#[]⟩, .slice (some ⟨g, 0, none⟩) 1 1], .slice none 0 0] w (WriteP [5, 0, 0] w) := by
  go_enter Try.func64, Try.ntmps64
  go_wp2_with fail
  refine (newWriter_any _).mono ?_
  rintro e w1 ⟨a, rfl, ha, hw, hu⟩
  have H1 := Lib.hid (WB.start (by rwa [World.size_alloc] at ha) hw hu)
  clear hw hu ha
  have c1 := H1.out.row.get (i := 1) rfl
  go_wp2_with fail
  refine (wb_raw H1.out [5] (by simp) (by simp)).mono ?_
  rintro e w2 ⟨rfl, v2, h2⟩
  have H2 := Lib.hid h2
  clear h2 c1
  have c1 := H2.out.row.get (i := 1) rfl
  have c4 := H2.out.row.get (i := 4) rfl
  have c6 := H2.out.row.get (i := 6) rfl
  go_wp2_with fail
  refine (asks_is _ (a := false) (b := false) (n := 1) rfl rfl rfl _).mono ?_
  rintro e wq ⟨rfl, rfl⟩
  go_wp2_with fail
  refine (takes_is _ (n := 0) (b := false) rfl rfl _).mono ?_
  rintro e wq ⟨rfl, rfl⟩
  go_wp2_with fail
  refine wp_loop_rounds 2 ?_
  rw [rounds_succ]
  go_wp2_with fail
  refine (wb_raw H2.out [0, 0] (by simp) (by simp)).mono ?_
  rintro e w3 ⟨rfl, v3, h3⟩
  have H3 := Lib.hid h3
  clear h3 c1 c4 c6
  have c6 := H3.out.row.get (i := 6) rfl
  go_wp2_with fail
  rw [rounds_succ]
  go_wp2_with fail
  refine (wb_done H3.out (by simp)).mono ?_
  rintro e w9 ⟨V, rfl, hb, hu⟩
  go_wp2_with fail
  go_ret
  exact ⟨V, rfl, hb, hu⟩
end Go.Proofs.Ytbpeoclhabgcgaa
