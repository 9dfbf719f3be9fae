import Derived.Test.YtbpeoclhabgcgaaWire4
import Derived.BigQuiet
import Derived.Deep.QuietTactic
namespace Go.Proofs.Ytbpeoclhabgcgaa
open Go.RowKit
set_option linter.unusedVariables false
set_option linter.unusedSimpArgs false

theorem drewN_two (w : World) (a b : Nat) : ∃ n, (w.drewN a).drewN b = w.drewN n := ⟨a + b, by simp [World.drewN, Nat.add_assoc]⟩

def NewR (l : List UInt8) (w : World) (e : Ending) (w' : World) : Prop :=
  ∃ a v, e = .returned (.pointer (some ⟨a, 0, none⟩)) ∧ w.heap.size ≤ a ∧ (∀ k, v.ownBlock = some k → w.heap.size ≤ k) ∧ Rd w' a v ⟨l, 0, 0, 0⟩ ∧ Upd (fun _ => False) w w'

set_option maxHeartbeats 400000 in
set_option maxRecDepth 100000 in
theorem newReader_any (b : Value) (l : List UInt8) (w : World) (hb : Bytes w b l) (hl : l.length ≤ 140737488355328) : Calls Try.prog 23 #[b] w (NewR l w) := by
  go_enter Try.func23, Try.ntmps23
  go_wp2_with fail
  refine (clone_any b l _ hb hl).mono ?_
  rintro e w1 ⟨v, rfl, ho, hu⟩
  have HO := Lib.hid ho
  have HU := Lib.hid hu
  have hsh : v = .slice none 0 0 ∨ ∃ g cap, v = .slice (some ⟨g, 0, none⟩) l.length cap := by
    rcases ho.2 with h | ⟨g, cap, cur, h, _⟩
    · exact .inl h.1
    · exact .inr ⟨g, cap, h⟩
  clear ho hu
  rcases hsh with rfl | ⟨g, cap, rfl⟩
  all_goals
    go_wp2
    go_ret
    refine ⟨w1.heap.size, _, rfl, HU.out.size, fun k hk => (HO.out.lt k hk).1, ⟨heap_alloc_new w1 _, ownsRow_base (HO.out.alloc _) (fun _ _ => Nat.zero_le _), fun e => ?_, Nat.zero_le _, hl⟩, HU.out.alloc _⟩
    have := (HO.out.lt _ e).2
    omega

set_option maxHeartbeats 400000 in
set_option maxRecDepth 100000 in
theorem rfail_any (a : Nat) (v : Value) (r : RS) (y : Int) (w : World) (hr : Rd w a v r) :
    Calls Try.prog 32 #[.pointer (some ⟨a, 0, none⟩), .int .i64 y] w fun e w' => e = .returned (.tuple #[]) ∧ RdPost a v (r.refuse y r.p) w w' := by
  have c1 := hr.get1
  go_enter Try.func32, Try.ntmps32
  go_wp2_with fail
  refine (rrefuse_any a v r y _ _ hr).mono ?_
  rintro e w1 ⟨rfl, hp⟩
  have HP := Lib.hid hp
  clear hp
  go_wp2
  go_end0
  exact ⟨rfl, HP.out⟩

def RS.left (r : RS) : Int := if r.why = 0 then (r.l.length : Int) - r.p else 0
def RS.fin (r : RS) : Int × Int := if r.why = 0 then (if r.p < r.l.length then (11, (r.p : Int)) else (0, 0)) else (r.why, r.no)

set_option maxHeartbeats 400000 in
set_option maxRecDepth 100000 in
theorem rleft_any (a : Nat) (v : Value) (r : RS) (w : World) (hr : Rd w a v r) :
    Calls Try.prog 33 #[.pointer (some ⟨a, 0, none⟩)] w fun e w' => e = .returned (.int .i64 r.left) ∧ ∃ n, w' = w.drewN n := by
  have c0 := hr.get0
  have c1 := hr.get1
  have c2 := hr.get2
  have hle := hr.le
  have hsm := hr.small
  have hsh : ∃ ao cap, v = .slice ao r.l.length cap := by
    rcases hr.own.2 with h | ⟨g, cap, cur, h, _⟩
    · exact ⟨none, 0, by rw [h.1, h.2]⟩
    · exact ⟨_, cap, h⟩
  obtain ⟨ao, cap, rfl⟩ := hsh
  unfold RS.left
  by_cases h1 : r.why = 0
  · have g1 : (r.why != 0) = false := by simp [h1]
    rw [if_pos h1]
    clear h1
    go_enter Try.func33, Try.ntmps33
    go_wp2
    go_quiet (fail)
    go_wp2
    go_ret
    exact ⟨rfl, _, rfl⟩
  · have g1 : (r.why != 0) = true := by simp [h1]
    rw [if_neg h1]
    clear h1
    go_enter Try.func33, Try.ntmps33
    go_wp2
    go_ret
    exact ⟨rfl, 0, rfl⟩

set_option maxHeartbeats 400000 in
set_option maxRecDepth 100000 in
theorem rend_any (a : Nat) (v : Value) (r : RS) (w : World) (hr : Rd w a v r) :
    Calls Try.prog 29 #[.pointer (some ⟨a, 0, none⟩)] w fun e w' => e = .returned (.tuple #[.int .i64 r.fin.1, .int .i64 r.fin.2]) ∧ ∃ n, w' = w.drewN n := by
  have c0 := hr.get0
  have c1 := hr.get1
  have c2 := hr.get2
  have c3 := hr.get3
  have hle := hr.le
  have hsm := hr.small
  have hsh : ∃ ao cap, v = .slice ao r.l.length cap := by
    rcases hr.own.2 with h | ⟨g, cap, cur, h, _⟩
    · exact ⟨none, 0, by rw [h.1, h.2]⟩
    · exact ⟨_, cap, h⟩
  obtain ⟨ao, cap, rfl⟩ := hsh
  unfold RS.fin
  by_cases h1 : r.why = 0
  · have g1 : (r.why != 0) = false := by simp [h1]
    rw [if_pos h1]
    clear h1
    by_cases h2 : r.p < r.l.length
    · rw [if_pos h2]
      have g2 : decide (r.p < r.l.length) = true := by simp [h2]
      go_enter Try.func29, Try.ntmps29
      go_wp2
      go_quiet (fail)
      go_wp2
      go_quiet (fail)
      go_wp2
      go_ret2
      exact ⟨rfl, drewN_two _ _ _⟩
    · rw [if_neg h2]
      have g2 : decide (r.p < r.l.length) = false := by simp; omega
      go_enter Try.func29, Try.ntmps29
      go_wp2
      go_quiet (fail)
      go_wp2
      go_ret2
      exact ⟨rfl, _, rfl⟩
  · have g1 : (r.why != 0) = true := by simp [h1]
    rw [if_neg h1]
    clear h1
    go_enter Try.func29, Try.ntmps29
    go_wp2
    go_quiet (fail)
    go_wp2
    go_ret2
    exact ⟨rfl, _, rfl⟩
end Go.Proofs.Ytbpeoclhabgcgaa
