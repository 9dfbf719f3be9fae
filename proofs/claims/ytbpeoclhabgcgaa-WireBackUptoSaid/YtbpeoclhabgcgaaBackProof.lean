/- WireBack: for every input the call returns true, and each argument reads behind the call as it read before. No condition. -/
import Derived.JoinedCond
import Derived.Deep.CondSized
import Derived.Test.YtbpeoclhabgcgaaRows
import Derived.WalkKit
import Derived.ProofKit
import Derived.OpenShut
import Derived.ShutString
import Derived.ChangeOld
import Derived.Below
import Derived.SizedLaws
import Derived.Test.YtbpeoclhabgcgaaBack
import Derived.Test.YtbpeoclhabgcgaaUp
namespace Go.Proofs.Ytbpeoclhabgcgaa.wireBackRow
open Go.ChangeShapes Go.WideShapes Go.ChangeAt Go.RowKit
open Go.ChangeMaps (open_string shut_string)
set_option linter.unusedVariables false
set_option linter.unusedSimpArgs false

theorem own : ownKnob Try.prog.godebug = none := by kernel_rfl
theorem laidOut : laidOutB Try.prog = true := by kernel_rfl

set_option maxRecDepth 100000 in
theorem lifted (os : Os) (started : os.Started) (H : Type) (enc : TypeId × Value → H) (F : Stop.Interp) :
    ReturnsInHanded {} Try.checked os 10 .any ((Rows.OpenSpec.upto Rows.wireBackSpec).pre6 enc Try.prog Try.f10 Rows.wireBackUptoRow.domain false) (((Rows.OpenSpec.upto Rows.wireBackSpec).at F).post enc Try.prog Try.f10 false true false false) := by
  refine returnsInHanded_of_cond_sized (C := Try.checked) (s := Rows.OpenSpec.upto Rows.wireBackSpec) (k := Rows.uptoSmall) rfl own started (by kernel_rfl) Try.func10
    (OpenSpec.witness (enc := enc) (C := Try.checked) (s := Rows.OpenSpec.upto Rows.wireBackSpec) (k := Rows.uptoSmall) rfl false ⟨#[], #[.slice none 0 0, .slice none 0 0], []⟩ 8 (by kernel_rfl) (by kernel_rfl) (by kernel_rfl)
      (x := ([.nil, .nil], [], [])) (by kernel_rfl) rfl (by kernel_rfl)) ?_
  intro W base args ds gs before hval0 hW hcnd hk hsz0 _
  have hB0 : Rows.uptoBulkAll (ds ++ gs) ≤ 1048576 := of_decide_eq_true hk
  have key : Calls Try.prog 10 args W fun e W' => ∃ v, e = .returned v ∧ Rows.wireBackSpec.post enc Try.prog Try.f10 false true false false W args v W' := by
    have hsz : (DataW.weightsEach Try.prog (Try.f10.params.toList ++ Rows.wireBackSpec.plain.varTypes Try.prog) (ds ++ gs)).all (· ≤ reachBytes) = true := hsz0
    have hval : ∀ (j : Nat) t v, Try.f10.params[j]? = some t → args[j]? = some v → Value.okWide Try.prog W .any base t v := hval0
    have hW' := hW
    obtain ⟨p, q, hA0, hV, rfl, hfz, hnd⟩ := hW
    have hA : DataW.TrodAll enc Try.prog W 0 (fun _ => true) true Try.f10.params.toList args.toList ds p := hA0
    rw [Try.params10] at hA hval hsz
    obtain ⟨v0, vs0, d0, ds0, p0, q0, hargs, rfl, rfl, h0, r0⟩ := trodAll_cons hA
    obtain ⟨v1, vs1, d1, ds1, p1, q1, rfl, rfl, rfl, h1, r1⟩ := trodAll_cons r0
    obtain ⟨rfl, rfl, rfl⟩ := trodAll_nil r1
    obtain rfl : args = #[v0, v1] := by cases args; simp_all
    obtain ⟨rfl, rfl⟩ := trodVars_none hV
    have hB : Rows.uptoBulkAll [d0, d1] ≤ 1048576 := by simpa using hB0
    have k0 := h0
    have lt0 : ∀ x ∈ p0, x.block < W.heap.size := by obtain ⟨m, hm⟩ := k0; exact DataW.trod_lt m _ _ _ hm
    have k1 := h1
    have lt1 : ∀ x ∈ p1, x.block < W.heap.size := by obtain ⟨m, hm⟩ := k1; exact DataW.trod_lt m _ _ _ hm
    obtain ⟨a0, len0, cap0, rfl⟩ := okWide_slice Try.underlying31 (hval 0 31 v0 rfl rfl)
    obtain ⟨fuel0, hf0⟩ := h0
    have z0 : len0 * Try.prog.bytesOf 33 ≤ 140737488351232 := by
      rcases slice_datum Try.underlying31 hf0 with h | ⟨elems, rest, hd, hlen⟩
      · rw [h]; omega
      · have := sized_slice hsz (j := 0) (t := 31) (e := 33) (elems := elems) (spare := rest) rfl (by simp only at hd; rw [hd]; rfl) Try.underlying31
        rw [hlen] at this
        simp only [reachBytes] at this
        exact Nat.le_trans (Nat.mul_le_mul_right _ (Nat.le_add_right _ _)) this
    obtain ⟨a1, len1, cap1, rfl⟩ := okWide_slice Try.underlying27 (hval 1 27 v1 rfl rfl)
    obtain ⟨fuel1, hf1⟩ := h1
    have z1 : len1 * Try.prog.bytesOf 5 ≤ 140737488351232 := by
      rcases slice_datum Try.underlying27 hf1 with h | ⟨elems, rest, hd, hlen⟩
      · rw [h]; omega
      · have := sized_slice hsz (j := 1) (t := 27) (e := 5) (elems := elems) (spare := rest) rfl (by simp only at hd; rw [hd]; rfl) Try.underlying27
        rw [hlen] at this
        simp only [reachBytes] at this
        exact Nat.le_trans (Nat.mul_le_mul_right _ (Nat.le_add_right _ _)) this
    have hwalk : Calls Try.prog 10 #[.slice a0 len0 cap0, .slice a1 len1 cap1] W fun e w' => e = .returned (.bool true) ∧ Below W.heap.size W w' := by
      (have e5 : Try.prog.bytesOf 5 = 1 := by kernel_rfl); rw [e5] at z1; obtain ⟨L, hL, hP⟩ := parts_open hf0; obtain ⟨l, hl, hb⟩ := bytes_open hf1; have hT := texts_bound (N := 1048576) hf0 hP (by simp only [Rows.uptoBulkAll] at hB; show Rows.uptoBulk d0 ≤ 1048576; omega); exact (back_any _ _ L l W hP hT hb (by omega)).mono fun _ _ h => h.below
    refine hwalk.mono fun e W' ⟨he, bel⟩ => ?_
    subst he
    exact ⟨_, rfl, _, _, _, [], _, [], hW', trodAll_mk1 (shut_bool Try.underlying4 _), (trodAll_cons_mk (Below.trod laidOut (by kernel_rfl) (of_decide_eq_true (by kernel_rfl)) k0 bel lt0) (trodAll_cons_mk (Below.trod laidOut (by kernel_rfl) (of_decide_eq_true (by kernel_rfl)) k1 bel lt1) trodAll_mk0)), rfl, bel.frame _, fun h => by cases h⟩
  
  exact key

theorem over : Rows.wireBackUptoRow.holds Try.pinned (Rows.OpenSpec.upto Rows.wireBackSpec) :=
  OpenClaim.holds_of_cond 10 Try.f10 rfl rfl rfl rfl rfl rfl rfl ⟨rfl, rfl, rfl, rfl, rfl⟩ rfl rfl rfl rfl rfl (by kernel_rfl) Try.func10 (by kernel_rfl)
    (of_decide_eq_true (by kernel_rfl)) (by unfold Func.isWrapper; rw [if_neg (of_decide_eq_false (by kernel_rfl))]; exact ⟨rfl, rfl⟩)
    (fun os started H enc _ F => lifted os started H enc F)

end Go.Proofs.Ytbpeoclhabgcgaa.wireBackRow
namespace Go.Proofs.Ytbpeoclhabgcgaa
/-- THE STATEMENT. -/
theorem wireBack_proved : Rows.WireBackUptoSaid := wireBackRow.over
#print axioms wireBack_proved
end Go.Proofs.Ytbpeoclhabgcgaa
