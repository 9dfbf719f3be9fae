import Derived.Test.YtaphlhggmdhffaaTurned
namespace Go.Proofs.Ytaphlhggmdhffaa
open Go.RowKit
set_option linter.unusedVariables false
set_option linter.unusedSimpArgs false
/-- The i-th case's name; a name for it. -/
def cn (i : Nat) : ByteArray := ⟨#[67, UInt8.ofNat (97 + i)]⟩
def nm (dot : Bool) (i : Nat) : ByteArray := if dot then ⟨#[109, 46, 67, UInt8.ofNat (97 + i)]⟩ else cn i
theorem La_cn6 : ∀ i : Fin 6, La (cn i) = cn i := by decide
theorem La_nm6 : ∀ d : Bool, ∀ i : Fin 6, La (nm d i) = cn i := by decide
theorem La_cn {i : Nat} (h : i < 6) : La (cn i) = cn i := La_cn6 ⟨i, h⟩
theorem La_nm (d : Bool) {i : Nat} (h : i < 6) : La (nm d i) = cn i := La_nm6 d ⟨i, h⟩
theorem cn_inj6 : ∀ i j : Fin 6, cn i = cn j → i = j := by decide
theorem cn_inj {i j : Nat} (hi : i < 6) (hj : j < 6) (h : cn i = cn j) : i = j := by
  have := cn_inj6 ⟨i, hi⟩ ⟨j, hj⟩ h
  simpa using this
def lsN (q : Nat) : Names := (List.range q).map cn
def ixN (N T : Nat) (i : Nat) : Nat := (i + T) % N
def nsN (N T : Nat) (d : Bool) (q : Nat) : Names := (List.range q).map (fun i => nm d (ixN N T i))
theorem lsN_len (q : Nat) : (lsN q).length = q := by simp [lsN]
theorem nsN_len (N T : Nat) (d : Bool) (q : Nat) : (nsN N T d q).length = q := by simp [nsN]
theorem lsN_step (q : Nat) : lsN (q + 1) = lsN q ++ [cn q] := by simp [lsN, List.range_succ]
theorem nsN_step (N T : Nat) (d : Bool) (q : Nat) : nsN N T d (q + 1) = nsN N T d q ++ [nm d (ixN N T q)] := by simp [nsN, List.range_succ]
theorem lsN_get {q i : Nat} (h : i < q) : (lsN q)[i]? = some (cn i) := by simp [lsN, h]
theorem nsN_get {N T : Nat} {d : Bool} {q i : Nat} (h : i < q) : (nsN N T d q)[i]? = some (nm d (ixN N T i)) := by simp [nsN, h]
theorem ixN_lt {N T i : Nat} (h : 0 < N) : ixN N T i < N := Nat.mod_lt _ h
theorem ixN_onto6 : ∀ N : Fin 7, ∀ T : Fin 21, ∀ i : Fin 6, i.1 < N.1 → ∃ j : Fin 6, j.1 < N.1 ∧ ixN N T j = i.1 := by decide
theorem ixN_inj6 : ∀ N : Fin 7, ∀ T : Fin 21, ∀ i j : Fin 6, i.1 < N.1 → j.1 < N.1 → ixN N T i = ixN N T j → i = j := by decide
theorem ixN_inj {N T i j : Nat} (hN : N ≤ 6) (hT : T ≤ 20) (hi : i < N) (hj : j < N) (h : ixN N T i = ixN N T j) : i = j := by
  have := ixN_inj6 ⟨N, by omega⟩ ⟨T, by omega⟩ ⟨i, by omega⟩ ⟨j, by omega⟩ hi hj h
  simpa using this
theorem ixN_onto {N T i : Nat} (hN : N ≤ 6) (hT : T ≤ 20) (hi : i < N) : ∃ j, j < N ∧ ixN N T j = i := by
  obtain ⟨j, h1, h2⟩ := ixN_onto6 ⟨N, by omega⟩ ⟨T, by omega⟩ ⟨i, by omega⟩ hi
  exact ⟨j.1, h1, h2⟩
theorem mem_lsN {c : ByteArray} {N : Nat} : c ∈ lsN N ↔ ∃ i, i < N ∧ c = cn i := by
  unfold lsN
  rw [List.mem_map]
  constructor
  · rintro ⟨i, hi, rfl⟩; exact ⟨i, List.mem_range.1 hi, rfl⟩
  · rintro ⟨i, hi, rfl⟩; exact ⟨i, List.mem_range.2 hi, rfl⟩
theorem La_ls {N : Nat} (hN : N ≤ 6) : casesS (lsN N) = lsN N := by
  unfold casesS
  rw [List.take_of_length_le (by rw [lsN_len]; omega)]
  unfold lsN
  rw [List.map_map]
  refine List.map_congr_left fun i hi => ?_
  exact La_cn (by have := List.mem_range.1 hi; omega)
theorem mem_ends {N T : Nat} {d : Bool} {q : Nat} {c : ByteArray} (h0 : 0 < N) (hN : N ≤ 6) : c ∈ (nsN N T d q).map La ↔ ∃ i, i < q ∧ c = cn (ixN N T i) := by
  unfold nsN
  rw [List.map_map, List.mem_map]
  have key : ∀ i, La (nm d (ixN N T i)) = cn (ixN N T i) := fun i => La_nm d (by have := ixN_lt (T := T) (i := i) h0; omega)
  constructor
  · rintro ⟨i, hi, rfl⟩; exact ⟨i, List.mem_range.1 hi, key i⟩
  · rintro ⟨i, hi, rfl⟩; exact ⟨i, List.mem_range.2 hi, key i⟩
theorem whole_missing {N T : Nat} {d : Bool} (h0 : 0 < N) (hN : N ≤ 6) (hT : T ≤ 20) : missTo (lsN N) (nsN N T d N) (lsN N).length = [] := by
  unfold missTo
  rw [List.take_length, List.filter_eq_nil_iff]
  intro c hc
  obtain ⟨i, hi, rfl⟩ := mem_lsN.1 hc
  obtain ⟨j, hj, hji⟩ := ixN_onto hN hT hi
  rw [inB_iff.2 ((mem_ends h0 hN).2 ⟨j, hj, by rw [hji]⟩)]
  simp
theorem whole_extra {N T : Nat} {d : Bool} (h0 : 0 < N) (hN : N ≤ 6) {R : Names} (hR : ∀ s ∈ R, s ∈ nsN N T d N) : extraTo (lsN N) R R.length = [] := by
  rw [extraTo_full, List.filter_eq_nil_iff]
  intro s hs
  obtain ⟨i, hi, rfl⟩ := List.mem_map.1 (hR s hs)
  rw [La_nm d (by have := ixN_lt (T := T) (i := i) h0; omega), inB_iff.2 (mem_lsN.2 ⟨_, ixN_lt h0, rfl⟩)]
  simp
theorem whole_twice {N T : Nat} {d : Bool} (h0 : 0 < N) (hN : N ≤ 6) (hT : T ≤ 20) : ∀ q, q ≤ N → twiceTo (nsN N T d N) q = []
  | 0, _ => rfl
  | q + 1, h => by
    have hg := nsN_get (N := N) (T := T) (d := d) (q := N) (i := q) (by omega)
    rw [twiceTo_out hg ?_, whole_twice h0 hN hT q (by omega)]
    intro hm
    have ht : (nsN N T d N).take q = nsN N T d q := by
      unfold nsN
      rw [← List.map_take, List.take_range, Nat.min_eq_left (by omega)]
    rw [ht, La_nm d (by have := ixN_lt (T := T) (i := q) h0; omega)] at hm
    obtain ⟨i, hi, he⟩ := (mem_ends h0 hN).1 hm
    have := cn_inj (by have := ixN_lt (T := T) (i := q) h0; omega) (by have := ixN_lt (T := T) (i := i) h0; omega) he
    have := ixN_inj hN hT (by omega) (by omega) this
    omega
theorem one_of6 : ∀ N : Fin 7, ∀ g : Fin 6, g.1 < N.1 → (List.range N.1).filter (fun i => i == g.1) = [g.1] := by decide
theorem whole_less {N T k : Nat} {d : Bool} (h0 : 0 < N) (hN : N ≤ 6) (hT : T ≤ 20) (hk : k < N) :
    missTo (lsN N) ((nsN N T d N).take k ++ (nsN N T d N).drop (k + 1)) (lsN N).length = [cn (ixN N T k)] := by
  have hm : ∀ i, i < N → (cn i ∈ ((nsN N T d N).take k ++ (nsN N T d N).drop (k + 1)).map La ↔ i ≠ ixN N T k) := by
    intro i hi
    have ht : (nsN N T d N).take k = nsN N T d k := by
      unfold nsN
      rw [← List.map_take, List.take_range, Nat.min_eq_left (by omega)]
    have hlt := fun j => ixN_lt (T := T) (i := j) h0
    rw [List.map_append, List.mem_append, ht, mem_ends h0 hN]
    constructor
    · rintro (⟨j, hj, he⟩ | hd)
      · have := cn_inj (by omega) (by have := hlt j; omega) he
        intro e
        have := ixN_inj hN hT (i := j) (j := k) (by omega) hk (by omega)
        omega
      · obtain ⟨s, hs, he⟩ := List.mem_map.1 hd
        obtain ⟨j, hj, hjs⟩ := List.getElem_of_mem hs
        rw [List.length_drop, nsN_len] at hj
        have hg := nsN_get (N := N) (T := T) (d := d) (q := N) (i := k + 1 + j) (by omega)
        rw [List.getElem_drop] at hjs
        rw [List.getElem?_eq_getElem (by rw [nsN_len]; omega), hjs] at hg
        obtain rfl := Option.some.inj hg
        rw [La_nm d (by have := hlt (k + 1 + j); omega)] at he
        have := cn_inj (by have := hlt (k + 1 + j); omega) (by omega) he
        intro e
        have := ixN_inj hN hT (i := k + 1 + j) (j := k) (by omega) hk (by omega)
        omega
    · intro hne
      obtain ⟨j, hj, hji⟩ := ixN_onto hN hT hi
      have hjk : j ≠ k := by rintro rfl; exact hne hji.symm
      by_cases hl : j < k
      · exact .inl ⟨j, hl, by rw [hji]⟩
      · refine .inr (List.mem_map.2 ⟨nm d (ixN N T j), ?_, ?_⟩)
        · refine List.mem_iff_getElem?.2 ⟨j - (k + 1), ?_⟩
          rw [List.getElem?_drop, show k + 1 + (j - (k + 1)) = j by omega]
          exact nsN_get hj
        · rw [hji]; exact La_nm d (by omega)
  unfold missTo
  rw [List.take_length]
  unfold lsN
  rw [List.filter_map]
  have : (List.range N).filter ((fun c => !inB c (((nsN N T d N).take k ++ (nsN N T d N).drop (k + 1)).map La)) ∘ cn) = (List.range N).filter (fun i => i == ixN N T k) := by
    refine List.filter_congr fun i hi => ?_
    have hi := List.mem_range.1 hi
    have h := hm i hi
    show (!inB (cn i) _) = (i == ixN N T k)
    by_cases e : i = ixN N T k
    · have : cn i ∉ ((nsN N T d N).take k ++ (nsN N T d N).drop (k + 1)).map La := fun hh => h.1 hh e
      rw [inB_not this]; simp [e]
    · rw [inB_iff.2 (h.2 e)]; simp [e]
  have h6 := one_of6 ⟨N, by omega⟩ ⟨ixN N T k, by have := ixN_lt (T := T) (i := k) h0; omega⟩ (ixN_lt h0)
  have h6' : (List.range N).filter (fun i => i == ixN N T k) = [ixN N T k] := h6
  rw [this, h6']
  rfl
theorem lsN_sz (q : Nat) : Sz (lsN q) := sz_small (fun s hs => by
  obtain ⟨i, _, rfl⟩ := List.mem_map.1 hs
  show 2 ≤ 1000; omega)
theorem nsN_sz (N T : Nat) (d : Bool) (q : Nat) : Sz (nsN N T d q) := sz_small (fun s hs => by
  obtain ⟨i, _, rfl⟩ := List.mem_map.1 hs
  cases d
  · show 2 ≤ 1000; omega
  · show 4 ≤ 1000; omega)
end Go.Proofs.Ytaphlhggmdhffaa
