import Derived.Test.YtckgcfkahffibaaRow
import Derived.Test.YtckgcfkahffibaaChecked
import Derived.Deep.RegionLaw
import Derived.Deep.RegionHeld3
namespace Go.Proofs.Ytckgcfkahffibaa
open Go.RowKit
set_option linter.unusedVariables false
set_option linter.unusedSimpArgs false

def DS.may (d : DS) (at_ : Int) : Int := if at_ < 0 ∨ 255 ≤ at_ then 1 else if d.gone = true then 37 else 0

set_option maxHeartbeats 1000000 in
set_option maxRecDepth 100000 in
theorem may_any (k gb gm cb cm : Nat) (Wv : Value) (d : DS) (at_ : Int) (w : World) (h : Dk w k gb gm cb cm Wv d) :
    Calls Try.prog 27 #[.pointer (some ⟨k, 0, none⟩), .int .i64 at_] w fun e w' => e = .returned (.int .i64 (d.may at_)) ∧ w' = w := by
  have c0 : w.cell? ⟨k, 0, none⟩ = some (.slice (some ⟨gb, 0, none⟩) 255 cb) := by rw [cell_of_row w k 0 _ 61 (0, 0) h.cell]; rfl
  have c4 : w.cell? ⟨k, 4, none⟩ = some (.bool d.gone) := by rw [cell_of_row w k 4 _ 61 (0, 0) h.cell]; rfl
  unfold DS.may
  by_cases h0 : at_ < 0
  · rw [if_pos (.inl h0)]
    go_enter Try.func27, Try.ntmps27
    go_wp2
    go_ret
    exact ⟨rfl, rfl⟩
  · by_cases h1 : 255 ≤ at_
    · rw [if_pos (.inr h1)]
      go_enter Try.func27, Try.ntmps27
      go_wp2
      go_ret
      exact ⟨rfl, rfl⟩
    · rw [if_neg (by omega)]
      cases hg : d.gone
      all_goals
        rw [hg] at c4
        go_enter Try.func27, Try.ntmps27
        go_wp2
        go_ret
        exact ⟨rfl, rfl⟩
end Go.Proofs.Ytckgcfkahffibaa
