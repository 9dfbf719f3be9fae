import Derived.Test.YtbpeoclhabgcgaaAsks
namespace Go.Proofs.Ytbpeoclhabgcgaa
open Go.RowKit
set_option linter.unusedVariables false
set_option linter.unusedSimpArgs false
def headI : List UInt8 → Int
  | [] => 0
  | b :: _ => b.toNat
def wordI : List UInt8 → Int
  | a :: b :: _ => (a.toNat * 256 + b.toNat : Nat)
  | _ => 0
def RS.byte (r : RS) : RS × Int := (r.take 1, headI (r.took 1))
def RS.word (r : RS) : RS × Int := (r.take 2, wordI (r.took 2))
def RS.form (r : RS) (is : Bool) : RS := if is then r else r.refuse 12 r.p
theorem took1 (r : RS) : r.took 1 = [] ∨ ∃ b, r.took 1 = [b] := by
  unfold RS.took
  split
  · rcases hd : r.l.drop r.p with _ | ⟨b, t⟩
    · left; rfl
    · right; exact ⟨b, rfl⟩
  · left; rfl
theorem took2 (r : RS) : r.took 2 = [] ∨ ∃ a b, r.took 2 = [a, b] := by
  unfold RS.took
  split
  · rename_i h
    rcases hd : r.l.drop r.p with _ | ⟨a, _ | ⟨b, t⟩⟩
    · left; rfl
    · have := congrArg List.length hd
      simp at this
      omega
    · right; exact ⟨a, b, rfl⟩
  · left; rfl
theorem join_i64 (a b : Nat) (ha : a < 256) (hb : b < 256) : bits .or .i64 (((a * 256 : Nat)) : Int) (b : Int) = ((a * 256 + b : Nat) : Int) := by
  rw [bits_join .i64 63 (by decide) (fun n h0 h1 => by rw [IntKind.wrap_i64]; omega) 8 _ _ (by omega) (by omega) (by omega) (by omega) (by omega) (by omega)]
  omega
/-- The reader of the code package: it holds a wire reader. -/
def CR (w : World) (k a : Nat) : Prop := w.heap[k]? = some (.cells #[.pointer (some ⟨a, 0, none⟩), .bool false] 108 (0, 0))
theorem CR.get {w : World} {k a : Nat} (h : CR w k a) : w.cell? ⟨k, 0, none⟩ = some (.pointer (some ⟨a, 0, none⟩)) := by rw [cell_of_row w k 0 _ 108 (0, 0) h]; rfl
theorem CR.upd {S : Nat → Prop} {w w' : World} {k a : Nat} (h : CR w k a) (hu : Upd S w w') (hk : ¬ S k) : CR w' k a := hu.heap_some h hk
set_option maxHeartbeats 1000000 in
set_option maxRecDepth 100000 in
theorem byte_any (k a : Nat) (v : Value) (r : RS) (w : World) (hc : CR w k a) (hr : Rd w a v r) :
    Calls Try.prog 65 #[.pointer (some ⟨k, 0, none⟩)] w fun e w' => e = .returned (.int .i64 r.byte.2) ∧ RdPost a v r.byte.1 w w' := by
  have c0 := hc.get
  unfold RS.byte
  rcases took1 r with h | ⟨b, h⟩
  · go_enter Try.func65, Try.ntmps65
    go_wp2_with fail
    refine (rraw_any a v r 1 w hr (by omega)).mono ?_
    rintro e w1 ⟨vs, rfl, ho, hp⟩
    simp only [show max (1 : Int) 0 = 1 from rfl, show max (2 : Int) 0 = 2 from rfl] at ho hp
    rw [h] at ho
    have HP := Lib.hid hp
    obtain ⟨ao, cap, rfl⟩ := own_shape ho
    clear hp ho
    go_wp2_with fail
    go_ret
    exact ⟨by rw [h]; rfl, HP.out⟩
  · go_enter Try.func65, Try.ntmps65
    go_wp2_with fail
    refine (rraw_any a v r 1 w hr (by omega)).mono ?_
    rintro e w1 ⟨vs, rfl, ho, hp⟩
    simp only [show max (1 : Int) 0 = 1 from rfl, show max (2 : Int) 0 = 2 from rfl] at ho hp
    rw [h] at ho
    have HP := Lib.hid hp
    obtain ⟨ao, cap, hv, _, _, hdj⟩ := Bytes_own ho
    obtain ⟨g, off, rfl, hcl⟩ := hdj.resolve_left (by simp)
    subst hv
    have c1 := hcl 0 (by simp)
    simp only [List.length_singleton, Nat.add_zero, List.getElem_cons_zero, byteV] at c1
    have hbl := b.toNat_lt
    have HW := Lib.hid (show wrap64 (b.toNat : Int) = b.toNat by unfold wrap64; omega)
    clear hp ho hcl hdj
    go_wp2_with fail
    go_ret
    refine ⟨?_, HP.out⟩
    rw [h]
    show _ = Ending.returned (.int .i64 (b.toNat : Int))
    rw [← HW.out]
    rfl
set_option maxHeartbeats 1000000 in
set_option maxRecDepth 100000 in
theorem word_any (k a : Nat) (v : Value) (r : RS) (w : World) (hc : CR w k a) (hr : Rd w a v r) :
    Calls Try.prog 69 #[.pointer (some ⟨k, 0, none⟩)] w fun e w' => e = .returned (.int .i64 r.word.2) ∧ RdPost a v r.word.1 w w' := by
  have c0 := hc.get
  unfold RS.word
  rcases took2 r with h | ⟨x, y, h⟩
  · go_enter Try.func69, Try.ntmps69
    go_wp2_with fail
    refine (rraw_any a v r 2 w hr (by omega)).mono ?_
    rintro e w1 ⟨vs, rfl, ho, hp⟩
    simp only [show max (1 : Int) 0 = 1 from rfl, show max (2 : Int) 0 = 2 from rfl] at ho hp
    rw [h] at ho
    have HP := Lib.hid hp
    obtain ⟨ao, cap, rfl⟩ := own_shape ho
    clear hp ho
    go_wp2_with fail
    go_ret
    exact ⟨by rw [h]; rfl, HP.out⟩
  · go_enter Try.func69, Try.ntmps69
    go_wp2_with fail
    refine (rraw_any a v r 2 w hr (by omega)).mono ?_
    rintro e w1 ⟨vs, rfl, ho, hp⟩
    simp only [show max (1 : Int) 0 = 1 from rfl, show max (2 : Int) 0 = 2 from rfl] at ho hp
    rw [h] at ho
    have HP := Lib.hid hp
    obtain ⟨ao, cap, hv, _, _, hdj⟩ := Bytes_own ho
    obtain ⟨g, off, rfl, hcl⟩ := hdj.resolve_left (by simp)
    subst hv
    have c1 := hcl 0 (by simp)
    have c2 := hcl 1 (by simp)
    simp only [Nat.add_zero, List.getElem_cons_zero, List.getElem_cons_succ, byteV] at c1 c2
    have hx : x.toNat < 256 := x.toNat_lt
    have hy : y.toNat < 256 := y.toNat_lt
    have HJ := Lib.hid (join_i64 x.toNat y.toNat hx hy)
    clear hp ho hcl hdj
    go_wp2_with fail
    go_quiet (fail)
    go_wp2_with fail
    go_ret
    refine ⟨?_, ?_⟩
    · rw [h]
      show _ = Ending.returned (.int .i64 (((x.toNat * 256 + y.toNat : Nat)) : Int))
      rw [← HJ.out]
      rfl
    · exact ⟨Rd_drewN HP.out.1 _, HP.out.2.drewN _⟩
set_option maxHeartbeats 1000000 in
set_option maxRecDepth 100000 in
theorem form_any (k a : Nat) (v : Value) (r : RS) (is : Bool) (w : World) (hc : CR w k a) (hr : Rd w a v r) :
    Calls Try.prog 66 #[.pointer (some ⟨k, 0, none⟩), .bool is] w fun e w' => e = .returned (.tuple #[]) ∧ RdPost a v (r.form is) w w' := by
  have c0 := hc.get
  unfold RS.form
  cases is
  · go_enter Try.func66, Try.ntmps66
    go_wp2_with fail
    refine (rfail_any a v r 12 w hr).mono ?_
    rintro e w1 ⟨rfl, hp⟩
    have HP := Lib.hid hp
    clear hp
    go_wp2_with fail
    go_end0
    exact ⟨rfl, HP.out⟩
  · go_enter Try.func66, Try.ntmps66
    go_wp2_with fail
    go_end0
    exact ⟨rfl, RdPost.refl hr⟩
end Go.Proofs.Ytbpeoclhabgcgaa
