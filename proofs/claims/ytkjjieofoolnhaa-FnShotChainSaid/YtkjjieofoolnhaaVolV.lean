/- Volumes with snapshots: how one reads, and the contracts of VolumeValid, the program's and the reference's. -/
import Derived.Test.YtkjjieofoolnhaaSavF
import Derived.Test.YtkjjieofoolnhaaSavW
import Derived.Test.YtkjjieofoolnhaaIntsX
namespace Go.Proofs.Ytkjjieofoolnhaa
open Go.RowKit
set_option linter.unusedVariables false

/-- A volume's two words lead to its values N and its snapshots S. -/
def VolR (w : World) (v : Value) (N : List Int) (S : List (List Sv)) : Prop :=
  ∃ A c B d, v = .agg #[.slice A N.length c, .slice B S.length d] ∧ IntsIn w A N ∧ RowsR savC w B S ∧ N.length ≤ c ∧ c ≤ 9223372036854775807 ∧ S.length ≤ d ∧ d ≤ 9223372036854775807
theorem VolR.keep {w w' : World} {v : Value} {N : List Int} {S : List (List Sv)} (h : VolR w v N S) (hk : ∀ k, k < w.heap.size → w'.heap[k]? = w.heap[k]?) : VolR w' v N S := by
  obtain ⟨A, c, B, d, e, h1, h2, r⟩ := h
  exact ⟨A, c, B, d, e, h1.keep hk, h2.keep hk, r⟩
theorem VolR.below {w w' : World} {v : Value} {N : List Int} {S : List (List Sv)} (h : VolR w v N S) (hb : Below w.heap.size w w') : VolR w' v N S := h.keep hb.block
theorem VolR.alloc {w : World} {v : Value} {N : List Int} {S : List (List Sv)} (h : VolR w v N S) (o : Obj) : VolR (w.alloc o) v N S := h.keep fun k hk => Below.heap_alloc w o k hk

def okS (n : Nat) (p : List Sv) (s : Sv) : Bool := inB s.1 0 ((n : Int) - 1) && inB s.2 0 255 && decide (findS p s.1 < 0)
/-- The saved values of a snapshot, behind those of p, are all in their place. -/
def upS (n : Nat) : List Sv → List Sv → Bool
  | _, [] => true
  | p, s :: t => okS n p s && upS n (p ++ [s]) t
def shotB (n : Nat) (l : List Sv) : Bool := upS n [] l
def volB (N : List Int) (S : List (List Sv)) : Bool := diskB N && decide ((S.length : Int) ≤ 5) && S.all (shotB N.length)
theorem upS_step {n : Nat} {l : List Sv} {k : Nat} (h : k < l.length) : upS n (l.take k) (l.drop k) = (okS n (l.take k) l[k] && upS n (l.take (k + 1)) (l.drop (k + 1))) := by
  rw [List.drop_eq_getElem_cons h, List.take_succ_eq_append_getElem h]
  rfl
theorem findF_range (a : Int) : ∀ (l : List Sv) (k : Nat), findF a k l = -1 ∨ ((k : Int) ≤ findF a k l ∧ findF a k l < k + l.length)
  | [], _ => .inl rfl
  | q :: r, k => by
    unfold findF
    split
    · right; simp; omega
    · rcases findF_range a r (k + 1) with h | h
      · exact .inl h
      · right
        simp only [List.length_cons]
        omega
theorem findF_append (a : Int) : ∀ (p r : List Sv) (k : Nat), findF a k (p ++ r) = if findF a k p < 0 then findF a (k + p.length) r else findF a k p
  | [], r, k => by simp [findF]
  | q :: t, r, k => by
    by_cases h : q.1 = a
    · simp only [List.cons_append, findF, if_pos h]
      rw [if_neg (by omega)]
    · simp only [List.cons_append, findF, if_neg h]
      rw [findF_append a t r (k + 1)]
      simp only [List.length_cons]
      rw [show k + 1 + t.length = k + (t.length + 1) by omega]
/-- The reference asks whether the first place of the sector is this one. -/
theorem find_here {l : List Sv} {j : Nat} (h : j < l.length) : (findS l l[j].1 = j) ↔ findS (l.take j) l[j].1 < 0 := by
  have e : l = l.take j ++ (l[j] :: l.drop (j + 1)) := by rw [← List.drop_eq_getElem_cons h, List.take_append_drop]
  have h1 := findF_append l[j].1 (l.take j) (l[j] :: l.drop (j + 1)) 0
  rw [← e] at h1
  have hl : (l.take j).length = j := by rw [List.length_take]; omega
  have h2 : findF l[j].1 (0 + (l.take j).length) (l[j] :: l.drop (j + 1)) = j := by simp [findF, hl]
  rw [h2] at h1
  have h3 := findF_range l[j].1 (l.take j) 0
  rw [hl] at h3
  unfold findS
  rw [h1]
  constructor
  · intro h4
    by_cases h5 : findF l[j].1 0 (l.take j) < 0
    · exact h5
    · rw [if_neg h5] at h4
      rcases h3 with h3 | h3 <;> omega
  · intro h5
    rw [if_pos h5]
theorem allS_step {α : Type} {f : α → Bool} {L : List α} {k : Nat} (h : k < L.length) : (L.take (k + 1)).all f = ((L.take k).all f && f L[k]) := by
  rw [List.take_succ_eq_append_getElem h, List.all_append]
  simp
theorem allS_no {α : Type} {f : α → Bool} {L : List α} {k : Nat} (h : k < L.length) (hn : f L[k] = false) : L.all f = false := by
  rw [List.all_eq_false]
  exact ⟨L[k], List.getElem_mem h, by simp [hn]⟩
end Go.Proofs.Ytkjjieofoolnhaa
