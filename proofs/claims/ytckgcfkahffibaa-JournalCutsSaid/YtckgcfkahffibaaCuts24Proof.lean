/- JournalCuts: for every input the call returns true, and each argument reads behind the call as it read before. No condition. -/
import Derived.Test.YtckgcfkahffibaaRows
import Derived.WalkKit
import Derived.ProofKit
import Derived.OpenShut
import Derived.ShutString
import Derived.ChangeOld
import Derived.Below
import Derived.SizedLaws
import Derived.Test.YtckgcfkahffibaaCuts24
import Derived.Test.YtckgcfkahffibaaOpen
namespace Go.Proofs.Ytckgcfkahffibaa.journalCutsRow
open Go.ChangeShapes Go.WideShapes Go.ChangeAt Go.RowKit
open Go.ChangeMaps (open_string shut_string)
set_option linter.unusedVariables false
set_option linter.unusedSimpArgs false

theorem own : ownKnob Try.prog.godebug = none := by kernel_rfl
theorem laidOut : laidOutB Try.prog = true := by kernel_rfl

set_option maxRecDepth 100000 in
theorem lifted (os : Os) (started : os.Started) (H : Type) (enc : TypeId × Value → H) :
    ReturnsInHanded {} Try.checked os 8 .any (Rows.journalCutsSpec.pre6 enc Try.prog Try.f8 Rows.journalCutsRow.domain false) (Rows.journalCutsSpec.post enc Try.prog Try.f8 false true false false) := by
  refine returnsInHanded_of_change_sized (C := Try.checked) own started (by kernel_rfl) Try.func8
    (ChangeSpec.witness6 (enc := enc) (C := Try.checked) false ⟨#[], #[.slice none 0 0, .slice none 0 0, .int .i64 0, .slice none 0 0, .slice none 0 0], []⟩ 8 (by kernel_rfl) (by kernel_rfl) (by kernel_rfl) (by kernel_rfl)) ?_
  intro W base args ds gs before hval0 hW hcnd hsz0 _
  have hsz : (DataW.weightsEach Try.prog (Try.f8.params.toList ++ Rows.journalCutsSpec.plain.varTypes Try.prog) (ds ++ gs)).all (· ≤ reachBytes) = true := hsz0
  have hval : ∀ (j : Nat) t v, Try.f8.params[j]? = some t → args[j]? = some v → Value.okWide Try.prog W .any base t v := hval0
  have hW' := hW
  obtain ⟨p, q, hA0, hV, rfl, hfz, hnd⟩ := hW
  have hA : DataW.TrodAll enc Try.prog W 0 (fun _ => true) true Try.f8.params.toList args.toList ds p := hA0
  rw [Try.params8] at hA hval hsz
  obtain ⟨v0, vs0, d0, ds0, p0, q0, hargs, rfl, rfl, h0, r0⟩ := trodAll_cons hA
  obtain ⟨v1, vs1, d1, ds1, p1, q1, rfl, rfl, rfl, h1, r1⟩ := trodAll_cons r0
  obtain ⟨v2, vs2, d2, ds2, p2, q2, rfl, rfl, rfl, h2, r2⟩ := trodAll_cons r1
  obtain ⟨v3, vs3, d3, ds3, p3, q3, rfl, rfl, rfl, h3, r3⟩ := trodAll_cons r2
  obtain ⟨v4, vs4, d4, ds4, p4, q4, rfl, rfl, rfl, h4, r4⟩ := trodAll_cons r3
  obtain ⟨rfl, rfl, rfl⟩ := trodAll_nil r4
  obtain rfl : args = #[v0, v1, v2, v3, v4] := by cases args; simp_all
  obtain ⟨rfl, rfl⟩ := trodVars_none hV
  have k0 := h0
  have lt0 : ∀ x ∈ p0, x.block < W.heap.size := by obtain ⟨m, hm⟩ := k0; exact DataW.trod_lt m _ _ _ hm
  have k1 := h1
  have lt1 : ∀ x ∈ p1, x.block < W.heap.size := by obtain ⟨m, hm⟩ := k1; exact DataW.trod_lt m _ _ _ hm
  have k2 := h2
  have lt2 : ∀ x ∈ p2, x.block < W.heap.size := by obtain ⟨m, hm⟩ := k2; exact DataW.trod_lt m _ _ _ hm
  have k3 := h3
  have lt3 : ∀ x ∈ p3, x.block < W.heap.size := by obtain ⟨m, hm⟩ := k3; exact DataW.trod_lt m _ _ _ hm
  have k4 := h4
  have lt4 : ∀ x ∈ p4, x.block < W.heap.size := by obtain ⟨m, hm⟩ := k4; exact DataW.trod_lt m _ _ _ hm
  obtain ⟨a0, len0, cap0, rfl⟩ := okWide_slice Try.underlying49 (hval 0 49 v0 rfl rfl)
  obtain ⟨fuel0, hf0⟩ := h0
  have z0 : len0 * Try.prog.bytesOf 65 ≤ 140737488351232 := by
    rcases slice_datum Try.underlying49 hf0 with h | ⟨elems, rest, hd, hlen⟩
    · rw [h]; omega
    · have := sized_slice hsz (j := 0) (t := 49) (e := 65) (elems := elems) (spare := rest) rfl (by simp only at hd; rw [hd]; rfl) Try.underlying49
      rw [hlen] at this
      simp only [reachBytes] at this
      exact Nat.le_trans (Nat.mul_le_mul_right _ (Nat.le_add_right _ _)) this
  obtain ⟨a1, len1, cap1, rfl⟩ := okWide_slice Try.underlying49 (hval 1 49 v1 rfl rfl)
  obtain ⟨fuel1, hf1⟩ := h1
  have z1 : len1 * Try.prog.bytesOf 65 ≤ 140737488351232 := by
    rcases slice_datum Try.underlying49 hf1 with h | ⟨elems, rest, hd, hlen⟩
    · rw [h]; omega
    · have := sized_slice hsz (j := 1) (t := 49) (e := 65) (elems := elems) (spare := rest) rfl (by simp only at hd; rw [hd]; rfl) Try.underlying49
      rw [hlen] at this
      simp only [reachBytes] at this
      exact Nat.le_trans (Nat.mul_le_mul_right _ (Nat.le_add_right _ _)) this
  obtain ⟨a2, rfl, _, _, w2⟩ := open_int Try.underlying3 (hval 2 3 v2 rfl rfl) h2
  obtain ⟨a3, len3, cap3, rfl⟩ := okWide_slice Try.underlying54 (hval 3 54 v3 rfl rfl)
  obtain ⟨fuel3, hf3⟩ := h3
  have z3 : len3 * Try.prog.bytesOf 3 ≤ 140737488351232 := by
    rcases slice_datum Try.underlying54 hf3 with h | ⟨elems, rest, hd, hlen⟩
    · rw [h]; omega
    · have := sized_slice hsz (j := 3) (t := 54) (e := 3) (elems := elems) (spare := rest) rfl (by simp only at hd; rw [hd]; rfl) Try.underlying54
      rw [hlen] at this
      simp only [reachBytes] at this
      exact Nat.le_trans (Nat.mul_le_mul_right _ (Nat.le_add_right _ _)) this
  obtain ⟨a4, len4, cap4, rfl⟩ := okWide_slice Try.underlying49 (hval 4 49 v4 rfl rfl)
  obtain ⟨fuel4, hf4⟩ := h4
  have z4 : len4 * Try.prog.bytesOf 65 ≤ 140737488351232 := by
    rcases slice_datum Try.underlying49 hf4 with h | ⟨elems, rest, hd, hlen⟩
    · rw [h]; omega
    · have := sized_slice hsz (j := 4) (t := 49) (e := 65) (elems := elems) (spare := rest) rfl (by simp only at hd; rw [hd]; rfl) Try.underlying49
      rw [hlen] at this
      simp only [reachBytes] at this
      exact Nat.le_trans (Nat.mul_le_mul_right _ (Nat.le_add_right _ _)) this
  have hwalk : Calls Try.prog 8 #[.slice a0 len0 cap0, .slice a1 len1 cap1, .int .i64 a2, .slice a3 len3 cap3, .slice a4 len4 cap4] W fun e w' => e = .returned (.bool true) ∧ Below W.heap.size W w' := by
    obtain ⟨L0, hL0, hm0⟩ := put_open hf0; obtain ⟨L1, hL1, hm1⟩ := put_open hf1; obtain ⟨L3, hL3, hI3⟩ := is_open hf3; obtain ⟨L4, hL4, hm4⟩ := put_open hf4; exact (cuts24_any _ _ _ _ a2 L0 L1 L4 L3 W hL0 hm0 hL1 hm1 (wf_i64 w2).1 (wf_i64 w2).2 hI3 hL4 hm4).mono fun _ _ h => ⟨h.1, h.2.below (Nat.le_refl _) (fun _ _ h => h.elim)⟩
  refine hwalk.mono fun e W' ⟨he, bel⟩ => ?_
  subst he
  exact ⟨_, rfl, _, _, _, [], _, [], hW', trodAll_mk1 (shut_bool Try.underlying4 _), (trodAll_cons_mk (Below.trod laidOut (by kernel_rfl) (of_decide_eq_true (by kernel_rfl)) k0 bel lt0) (trodAll_cons_mk (Below.trod laidOut (by kernel_rfl) (of_decide_eq_true (by kernel_rfl)) k1 bel lt1) (trodAll_cons_mk (Below.trod laidOut (by kernel_rfl) (of_decide_eq_true (by kernel_rfl)) k2 bel lt2) (trodAll_cons_mk (Below.trod laidOut (by kernel_rfl) (of_decide_eq_true (by kernel_rfl)) k3 bel lt3) (trodAll_cons_mk (Below.trod laidOut (by kernel_rfl) (of_decide_eq_true (by kernel_rfl)) k4 bel lt4) trodAll_mk0))))), rfl, bel.frame _, fun h => by cases h⟩

theorem over : Rows.journalCutsRow.holds Try.pinned (OpenSpec.ofChange Rows.journalCutsSpec) :=
  OpenClaim.holds_of_wide 8 Try.f8 rfl rfl rfl rfl rfl rfl rfl ⟨rfl, rfl, rfl, rfl, rfl⟩ rfl rfl rfl rfl rfl (by kernel_rfl) Try.func8 (by kernel_rfl)
    (of_decide_eq_true (by kernel_rfl)) (by unfold Func.isWrapper; rw [if_neg (of_decide_eq_false (by kernel_rfl))]; exact ⟨rfl, rfl⟩)
    (fun os started H enc _ => lifted os started H enc)

end Go.Proofs.Ytckgcfkahffibaa.journalCutsRow
namespace Go.Proofs.Ytckgcfkahffibaa
/-- THE STATEMENT. -/
theorem journalCuts_proved : Rows.JournalCutsSaid := journalCutsRow.over
#print axioms journalCuts_proved
end Go.Proofs.Ytckgcfkahffibaa
