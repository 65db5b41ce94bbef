/- Saved values: how a list of them reads. -/
import Derived.Test.YtkjjieofoolnhaaOpenS
namespace Go.Proofs.Ytkjjieofoolnhaa
open Go.ChangeShapes Go.WideShapes Go.ChangeAt Go.RowKit Go.Deep
set_option linter.unusedVariables false

/-- A saved value: its sector, the value. -/
abbrev Sv := Int × Int
/-- The slice's address A leads to the saved values l. -/
def SavedIn (w : World) (A : Option Addr) (l : List Sv) : Prop :=
  0 < l.length → ∃ b off, A = some ⟨b, off, none⟩ ∧ ∀ i (h : i < l.length), w.cell? ⟨b, off + i * 2, none⟩ = some (.int .i64 l[i].1) ∧ w.cell? ⟨b, off + i * 2 + 1, none⟩ = some (.int .i64 l[i].2)
theorem SavedIn.nil (w : World) (A : Option Addr) : SavedIn w A [] := fun h => absurd h (by simp)
theorem SavedIn.keep {w w' : World} {A : Option Addr} {l : List Sv} (h : SavedIn w A l) (hk : ∀ k, k < w.heap.size → w'.heap[k]? = w.heap[k]?) : SavedIn w' A l := by
  intro h0
  obtain ⟨b, off, e, hc⟩ := h h0
  refine ⟨b, off, e, fun i hi => ?_⟩
  obtain ⟨c1, c2⟩ := hc i hi
  have hk' := hk b (block_lt_of_cell c1)
  exact ⟨(World.cell?_of_block hk').trans c1, (World.cell?_of_block hk').trans c2⟩
theorem SavedIn.below {w w' : World} {A : Option Addr} {l : List Sv} (h : SavedIn w A l) (hb : Below w.heap.size w w') : SavedIn w' A l := h.keep hb.block
theorem SavedIn.drewN {w : World} {A : Option Addr} {l : List Sv} (h : SavedIn w A l) (n : Nat) : SavedIn (w.drewN n) A l := h
theorem SavedIn.take {w : World} {A : Option Addr} {l : List Sv} (h : SavedIn w A l) (k : Nat) : SavedIn w A (l.take k) := by
  intro h0
  obtain ⟨b, off, e, hc⟩ := h (by rw [List.length_take] at h0; omega)
  exact ⟨b, off, e, fun i hi => by rw [List.getElem_take]; exact hc i (by rw [List.length_take] at hi; omega)⟩
/-- The cells of saved values. -/
def savC (l : List Sv) : List Value := l.flatMap fun q => [.int .i64 q.1, .int .i64 q.2]
theorem savC_length (l : List Sv) : (savC l).length = 2 * l.length := by
  induction l with
  | nil => rfl
  | cons p r ih => simp only [savC, List.flatMap_cons, List.length_append, List.length_cons, List.length_nil] at ih ⊢; omega
theorem savC_append (l m : List Sv) : savC (l ++ m) = savC l ++ savC m := by simp [savC]
theorem savC_one (l : List Sv) : ∀ u ∈ savC l, u.oneCell' = true := by
  intro u hu
  simp only [savC, List.mem_flatMap] at hu
  obtain ⟨q, _, hq⟩ := hu
  simp only [List.mem_cons, List.not_mem_nil, or_false] at hq
  rcases hq with rfl | rfl <;> rfl
theorem savC_get (l : List Sv) (i : Nat) (h : i < l.length) : (savC l)[i * 2]? = some (.int .i64 l[i].1) ∧ (savC l)[i * 2 + 1]? = some (.int .i64 l[i].2) := by
  induction l generalizing i with
  | nil => simp at h
  | cons p r ih =>
    cases i with
    | zero => exact ⟨rfl, rfl⟩
    | succ i =>
      obtain ⟨a, b⟩ := ih i (by simpa using h)
      have e : savC (p :: r) = .int .i64 p.1 :: .int .i64 p.2 :: savC r := rfl
      rw [e, show (i + 1) * 2 = i * 2 + 1 + 1 by omega]
      exact ⟨a, b⟩
theorem SavedIn.of {w : World} {A : Option Addr} {l : List Sv} (h : ReadC w A (savC l)) : SavedIn w A l := by
  intro h0
  obtain ⟨b, off, e, hc⟩ := h (by rw [savC_length]; omega)
  refine ⟨b, off, e, fun i hi => ?_⟩
  have hl := savC_length l
  obtain ⟨g1, g2⟩ := savC_get l i hi
  have c1 := hc (i * 2) (by omega)
  have c2 := hc (i * 2 + 1) (by omega)
  rw [List.getElem?_eq_getElem (by omega)] at g1 g2
  injection g1 with g1
  injection g2 with g2
  rw [g1] at c1
  rw [g2] at c2
  exact ⟨c1, by rw [Nat.add_assoc]; exact c2⟩
theorem SavedIn.read {w : World} {A : Option Addr} {l : List Sv} (h : SavedIn w A l) : ReadC w A (savC l) := by
  intro h0
  have hl := savC_length l
  obtain ⟨b, off, e, hc⟩ := h (by omega)
  refine ⟨b, off, e, fun j hj => ?_⟩
  obtain ⟨i, r, rfl, hr⟩ : ∃ i r, j = i * 2 + r ∧ r < 2 := ⟨j / 2, j % 2, by omega, by omega⟩
  have hi : i < l.length := by omega
  obtain ⟨c1, c2⟩ := hc i hi
  obtain ⟨g1, g2⟩ := savC_get l i hi
  have key : ∀ (j : Nat) (hj : j < (savC l).length) (v : Value), (savC l)[j]? = some v → (savC l)[j] = v := by
    intro j hj v h
    rw [List.getElem?_eq_getElem hj] at h
    injection h
  rcases (show r = 0 ∨ r = 1 by omega) with rfl | rfl
  · rw [key (i * 2 + 0) hj _ g1]; exact c1
  · rw [key _ _ _ g2, ← Nat.add_assoc]; exact c2
end Go.Proofs.Ytkjjieofoolnhaa
