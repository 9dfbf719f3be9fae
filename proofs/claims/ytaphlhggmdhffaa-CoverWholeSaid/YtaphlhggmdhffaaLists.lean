import Derived.Test.YtaphlhggmdhffaaStr
import Derived.Maps.OwnOps
import Derived.Maps.Views
/-
  WORDS ON LISTS OF NAMES: slices of strings and of cases that can be read; a map that counts names.
-/
namespace Go.Proofs.Ytaphlhggmdhffaa
open Go.RowKit Go.Maps Go.WideMaps
set_option linter.unusedVariables false
set_option linter.unusedSimpArgs false
abbrev Names := List ByteArray
/-- No name is longer than memory. -/
def Sz (L : Names) : Prop := ∀ s ∈ L, s.size ≤ 140737488351232
theorem La_size (s : ByteArray) : (La s).size ≤ s.size := by
  unfold La
  rw [ByteArray.size_extract]
  omega
/-- A slice of strings that can be read. -/
def SS (w : World) (v : Value) (L : Names) : Prop :=
  ∃ ao cap, v = .slice ao L.length cap ∧ L.length ≤ cap ∧ cap ≤ 9223372036854775807 ∧ (L = [] ∨ ∃ b off, ao = some ⟨b, off, none⟩ ∧ ∀ i (h : i < L.length), w.cell? ⟨b, off + i, none⟩ = some (.string L[i]))
theorem SS.upd {w w' : World} {v : Value} {L : Names} (h : SS w v L) (hu : Upd (fun _ => False) w w') : SS w' v L := by
  obtain ⟨ao, cap, rfl, h1, h2, h⟩ := h
  refine ⟨ao, cap, rfl, h1, h2, ?_⟩
  rcases h with h | ⟨b, off, rfl, hc⟩
  · exact .inl h
  · exact .inr ⟨b, off, rfl, fun i hi => hu.cell_some (hc i hi) (fun h => h)⟩
/-- A slice of cases that can be read. -/
def CS (w : World) (v : Value) (L : Names) : Prop :=
  ∃ ao cap, v = .slice ao L.length cap ∧ L.length ≤ cap ∧ cap ≤ 9223372036854775807 ∧ (L = [] ∨ ∃ b off, ao = some ⟨b, off, none⟩ ∧ ∀ i (h : i < L.length), w.rangeAt b (off + i * 2) [.string L[i], .slice none 0 0])
theorem CS.upd {w w' : World} {v : Value} {L : Names} (h : CS w v L) (hu : Upd (fun _ => False) w w') : CS w' v L := by
  obtain ⟨ao, cap, rfl, h1, h2, h⟩ := h
  refine ⟨ao, cap, rfl, h1, h2, ?_⟩
  rcases h with h | ⟨b, off, rfl, hc⟩
  · exact .inl h
  · exact .inr ⟨b, off, rfl, fun i hi j v hv => hu.cell_some (hc i hi j v hv) (fun h => h)⟩
def strV (L : Names) : List Value := L.map .string
theorem strV_app (A B : Names) : strV (A ++ B) = strV A ++ strV B := by simp [strV]
theorem strV_get (L : Names) (i : Nat) (h : i < L.length) : (strV L)[i]? = some (.string L[i]) := by simp [strV, h]
def caseV : Names → List Value
  | [] => []
  | s :: L => .string s :: .slice none 0 0 :: caseV L
theorem caseV_app (A : Names) (s : ByteArray) : caseV (A ++ [s]) = caseV A ++ [.string s, .slice none 0 0] := by
  induction A with
  | nil => rfl
  | cons a A ih => simp only [List.cons_append, caseV, ih]
theorem caseV_get : ∀ (L : Names) (i : Nat) (h : i < L.length), (caseV L)[i * 2]? = some (.string L[i]) ∧ (caseV L)[i * 2 + 1]? = some (.slice none 0 0)
  | s :: L, 0, _ => ⟨rfl, rfl⟩
  | s :: L, i + 1, h => by
    have := caseV_get L i (by simpa using h)
    rw [show (i + 1) * 2 = i * 2 + 1 + 1 by omega]
    simp only [caseV, List.getElem?_cons_succ, List.getElem_cons_succ]
    exact this
theorem SS_own {w : World} {base : Nat} {v : Value} {L : Names} (h : w.ownsRow base 9 1 v L.length (strV L)) : SS w v L := by
  rcases h.2 with ⟨rfl, hl⟩ | ⟨g, cap, cur, rfl, _, hg, hn, hm, hs, ht⟩
  · exact ⟨none, 0, by rw [hl], by omega, by omega, .inl (List.eq_nil_of_length_eq_zero hl)⟩
  · refine ⟨some ⟨g, 0, none⟩, cap, rfl, hn, by unfold maxLen at hm; omega, .inr ⟨g, 0, rfl, fun i hi => ?_⟩⟩
    rw [cell_of_row w g (0 + i) cur 9 (0, 0) hg]
    have := strV_get L i hi
    rw [← ht, List.getElem?_take] at this
    split at this
    · simpa using this
    · cases this
theorem CS_own {w : World} {base : Nat} {v : Value} {L : Names} (h : w.ownsRow base 32 2 v L.length (caseV L)) : CS w v L := by
  rcases h.2 with ⟨rfl, hl⟩ | ⟨g, cap, cur, rfl, _, hg, hn, hm, hs, ht⟩
  · exact ⟨none, 0, by rw [hl], by omega, by omega, .inl (List.eq_nil_of_length_eq_zero hl)⟩
  · refine ⟨some ⟨g, 0, none⟩, cap, rfl, hn, by unfold maxLen at hm; omega, .inr ⟨g, 0, rfl, fun i hi j u hj => ?_⟩⟩
    have hget := caseV_get L i hi
    have key : ∀ m u, (caseV L)[m]? = some u → w.cell? ⟨g, m, none⟩ = some u := fun m u hm => by
      rw [cell_of_row w g m cur 32 (0, 0) hg]
      rw [← ht, List.getElem?_take] at hm
      split at hm
      · simpa using hm
      · cases hm
    show w.cell? ⟨g, 0 + i * 2 + j, none⟩ = some u
    rw [Nat.zero_add]
    match j, hj with
    | 0, hj => obtain rfl := Option.some.inj hj; exact key _ _ hget.1
    | 1, hj => obtain rfl := Option.some.inj hj; exact key _ _ hget.2
def keyS (s : ByteArray) : Lit := .string s.data.toList
theorem keyS_inj {a b : ByteArray} (h : keyS a = keyS b) : a = b := by
  have h' : a.data.toList = b.data.toList := by simpa [keyS] using h
  cases a; cases b
  simp only at h'
  rw [Array.toList_inj.1 h']
theorem keyS_key (s : ByteArray) : WideAt.IsKeyLit (keyS s) := by first | trivial | exact True.intro | (unfold keyS WideAt.IsKeyLit; trivial)
abbrev i64D (n : Int) : DataW Nat := .lit (.int .i64 n)
/-- A map that counts names. -/
def MC (w : World) (B n : Nat) (f : ByteArray → Nat) : Prop :=
  ∃ D : DataW Nat, w.ownsMap Try.prog 9 (plainElem Try.prog 3) B n D ∧ IsMap D ∧ ∀ s, D.atKey (keyS s) (i64D 0) = i64D (f s)
theorem MC.upd {S : Nat → Prop} {w w' : World} {B n : Nat} {f : ByteArray → Nat} (h : MC w B n f) (hu : Upd S w w') (hb : ¬ S B) : MC w' B n f := by
  obtain ⟨D, ⟨es, clock, h1, h2⟩, h3⟩ := h
  exact ⟨D, ⟨es, clock, hu.heap_some h1 hb, h2⟩, h3⟩
theorem MC.lt {w : World} {B n : Nat} {f : ByteArray → Nat} (h : MC w B n f) : B < w.heap.size := by
  obtain ⟨D, h, _⟩ := h; exact h.lt
theorem MC.made (w : World) : MC (w.alloc (.map #[] 0)) w.heap.size 0 (fun _ => 0) :=
  ⟨.map [], World.ownsMap_made _ _ _ _, isMap_empty, fun s => rfl⟩
theorem law9 : Keyed Try.prog 9 := string_keyed Try.underlying9
theorem zero3 (w : World) : (zeroValue 3).run Try.prog w = .ok (.int .i64 0) w := by kernel_rfl
theorem key_ok {s : ByteArray} (h : s.size ≤ 140737488351232) : keyOf Try.prog 9 (.string s) = some (keyS s) := keyOf_string_mk Try.underlying9 (by unfold maxLen; omega)
/-- 'm[k]'. -/
theorem wpList_lookC {w : World} {ops : Array Oper} {rest : List Oper} {o : Oper} {a : Act} {Q : Exit → Act → World → Prop} (hg : o.guard = none) (m x : Operand) (hop : o.op = Op.lookup 36 m x false)
    (B n : Nat) (f : ByteArray → Nat) (hm : a.eval m = .map (some B)) (h : MC w B n f) (s : ByteArray) (hs : s.size ≤ 140737488351232) (hx : a.eval x = .string s) (hk : wpList Try.prog ops Q rest (a.put o.dst (.int .i64 (f s))) w) :
    wpList Try.prog ops Q (o :: rest) a w := by
  obtain ⟨D, hown, hM, hD⟩ := h
  refine wpList_lookup_own_int w hg m x 36 hop 9 3 .i64 law9 Try.underlying36 Try.underlying3 (zero3 w) B n D hm hown (.string s) (keyS s) hx (key_ok hs) ?_
  intro c hat hwc
  have := (hD s).symm.trans hat
  simp only [i64D, DataW.lit.injEq, Lit.int.injEq, true_and] at this
  rw [← this]
  exact hk
/-- 'm[k]++', the store. -/
theorem wpList_putC {w : World} {ops : Array Oper} {rest : List Oper} {o : Oper} {a : Act} {Q : Exit → Act → World → Prop} (hg : o.guard = none) (m x v : Operand) (hop : o.op = Op.mapUpdate 36 m x v)
    (B n : Nat) (f : ByteArray → Nat) (hm : a.eval m = .map (some B)) (h : MC w B n f) (hn : n ≤ 1000000) (s : ByteArray) (hs : s.size ≤ 140737488351232) (hx : a.eval x = .string s) (c : Nat) (hc : c ≤ 1000000) (hv : a.eval v = .int .i64 c)
    (hk : ∀ w', MC w' B (n + 1) (fun y => if y = s then c else f y) → Upd (fun j => j = B) w w' → wpList Try.prog ops Q rest (a.put o.dst undef) w') :
    wpList Try.prog ops Q (o :: rest) a w := by
  obtain ⟨D, hown, hM, hD⟩ := h
  refine wpList_mapUpdate_own w hg m x v 36 hop 9 3 law9 Try.underlying36 _ B n D hm hown (by unfold maxLen; omega) (.string s) (.int .i64 c) (keyS s) hx hv (key_ok hs) (i64D c) [] (plainElem_int Try.underlying3 (WalkArith.wf_i64 (by omega))) ?_
  intro w' h1 h2
  refine hk w' ⟨_, h1, hM.put _ _, fun y => ?_⟩ ?_
  · by_cases e : y = s
    · subst e
      rw [atKey_put_same hM (keyS_key y)]
      simp
    · rw [atKey_put_other (fun h => e (keyS_inj h)), hD y]
      simp [e]
  · exact (Upd.refl (fun j => j = B) w).grown h2 (fun j hj _ => by simpa using hj.symm)
end Go.Proofs.Ytaphlhggmdhffaa
