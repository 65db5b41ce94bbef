/- Plain laws on gaps: no program in sight. -/
import Derived.Test.YtpfbkmpjneclpaaPartsLaw
import Derived.Test.YtpfbkmpjneclpaaGap
namespace Go.Proofs.Ytpfbkmpjneclpaa
open Go.RowKit
set_option linter.unusedVariables false

theorem gp_spec (size : Int) : ∀ (r : List (Int × Int)) (best most last : Int), partsOk size last r = true → 0 ≤ most → last ≤ size →
    gp best most last (r ++ [(size, 0)]) = (best, most) ∨ ∃ a m, gp best most last (r ++ [(size, 0)]) = (a, m) ∧ last ≤ a ∧ 1 ≤ m ∧ a + m ≤ size ∧ ∀ i (h : i < r.length), r[i].1 + r[i].2 ≤ a ∨ a + m ≤ r[i].1
  | [], best, most, last, hp, h0, h1 => by
    have e : gp best most last ([] ++ [(size, 0)]) = if most < size - last then (last, size - last) else (best, most) := rfl
    rw [e]
    split
    · exact .inr ⟨_, _, rfl, by omega, by omega, by omega, fun i h => absurd h (by simp)⟩
    · exact .inl rfl
  | p :: r, best, most, last, hp, h0, h1 => by
    simp only [partsOk, Bool.and_eq_true, inB_iff] at hp
    have hr := fun i hi => parts_range_aux size r (p.1 + p.2) hp.2 i hi
    have e : gp best most last (p :: r ++ [(size, 0)]) = if most < p.1 - last then gp last (p.1 - last) (p.1 + p.2) (r ++ [(size, 0)]) else gp best most (p.1 + p.2) (r ++ [(size, 0)]) := rfl
    rw [e]
    have lift : ∀ (a m : Int), p.1 + p.2 ≤ a → 1 ≤ m → (∀ i (h : i < r.length), r[i].1 + r[i].2 ≤ a ∨ a + m ≤ r[i].1) → ∀ i (h : i < (p :: r).length), (p :: r)[i].1 + (p :: r)[i].2 ≤ a ∨ a + m ≤ (p :: r)[i].1 := by
      intro a m h2 h3 h4 i h
      cases i with
      | zero => simp only [List.getElem_cons_zero]; exact .inl h2
      | succ i => exact h4 i (by simpa using h)
    split
    · rename_i hg
      rcases gp_spec size r last (p.1 - last) (p.1 + p.2) hp.2 (by omega) (by omega) with h | ⟨a, m, h2, h3, h4, h5, h6⟩
      · refine .inr ⟨_, _, h, by omega, by omega, by omega, fun i hi => ?_⟩
        cases i with
        | zero => simp only [List.getElem_cons_zero]; exact .inr (by omega)
        | succ i =>
          have := hr i (by simpa using hi)
          simp only [List.getElem_cons_succ]
          exact .inr (by omega)
      · exact .inr ⟨a, m, h2, by omega, h4, h5, lift a m h3 h4 h6⟩
    · rcases gp_spec size r best most (p.1 + p.2) hp.2 h0 (by omega) with h | ⟨a, m, h2, h3, h4, h5, h6⟩
      · exact .inl h
      · exact .inr ⟨a, m, h2, by omega, h4, h5, lift a m h3 h4 h6⟩

/-- Where the last of the partitions ends. -/
def endP : Int → List (Int × Int) → Int
  | last, [] => last
  | _, p :: r => endP (p.1 + p.2) r
theorem partsOk_snoc (size a m : Int) : ∀ (l : List (Int × Int)) (last : Int), partsOk size last l = true → endP last l ≤ a → 1 ≤ m → a + m ≤ size → partsOk size last (l ++ [(a, m)]) = true
  | [], last, _, h1, h2, h3 => by
    have h1' : last ≤ a := h1
    simp only [List.nil_append, partsOk, Bool.and_true, Bool.and_eq_true, inB_iff]; omega
  | p :: r, last, hp, h1, h2, h3 => by
    simp only [partsOk, Bool.and_eq_true, inB_iff, List.cons_append] at hp ⊢
    exact ⟨hp.1, partsOk_snoc size a m r _ hp.2 h1 h2 h3⟩
theorem endP_last : ∀ (l : List (Int × Int)) (last : Int) (h : 0 < l.length), endP last l = l[l.length - 1].1 + l[l.length - 1].2
  | [], last, h => absurd h (by simp)
  | [p], last, h => rfl
  | p :: q :: r, last, h => by
    rw [show endP last (p :: q :: r) = endP (p.1 + p.2) (q :: r) from rfl, endP_last (q :: r) (p.1 + p.2) (by simp)]
    simp

theorem gap_neg {l : List (Int × Int)} {size : Int} (h : (gapV l size).1 < 0) : gapV l size = (-1, 0) := by
  unfold gapV at h ⊢
  split
  · rename_i hv
    rw [if_pos hv] at h
    have hv' := hv
    unfold partsB at hv'
    simp only [Bool.and_eq_true, inB_iff] at hv'
    rcases gp_spec size l (-1) 0 0 hv'.2 (by omega) (by omega) with h1 | ⟨a, m, h1, h2, _⟩
    · exact h1
    · rw [h1] at h; simp only at h; omega
  · rfl
theorem gap_pos {l : List (Int × Int)} {size a m : Int} (e : gapV l size = (a, m)) (h : ¬ a < 0) : partsB l size = true ∧ 1 ≤ m ∧ a + m ≤ size ∧ (∀ k, a ≤ k → k < a + m → (fromDiskV l size k).1 = -1) ∧
    (l.length < 8 → (∀ j (hj : l.length = j + 1), (l[j]'(by omega)).1 ≤ a) → partsB (l ++ [(a, m)]) size = true) := by
  unfold gapV at e
  split at e
  · rename_i hv
    have hv' := hv
    unfold partsB at hv'
    simp only [Bool.and_eq_true, inB_iff] at hv'
    rcases gp_spec size l (-1) 0 0 hv'.2 (by omega) (by omega) with h1 | ⟨a', m', h1, h2, h3, h4, h5⟩
    · rw [h1] at e
      obtain ⟨rfl, rfl⟩ : (-1 : Int) = a ∧ (0 : Int) = m := by injection e with e1 e2; exact ⟨e1, e2⟩
      omega
    · rw [h1] at e
      obtain ⟨rfl, rfl⟩ : a' = a ∧ m' = m := by injection e with e1 e2; exact ⟨e1, e2⟩
      refine ⟨hv, h3, h4, fun k k1 k2 => ?_, fun hlen hlast => ?_⟩
      · unfold fromDiskV
        rw [if_pos hv]
        rcases fdV_cases k l 0 with ⟨h6, _⟩ | ⟨i, hi, h6, h7, h8⟩
        · rw [h6]
        · have := h5 i hi
          omega
      · unfold partsB
        simp only [Bool.and_eq_true, inB_iff]
        refine ⟨⟨hv'.1.1, by simp; omega⟩, partsOk_snoc size a' m' l 0 hv'.2 ?_ h3 h4⟩
        by_cases hl : 0 < l.length
        · rw [endP_last l 0 hl]
          have := hlast (l.length - 1) (by omega)
          have := h5 (l.length - 1) (by omega)
          omega
        · have : l = [] := List.eq_nil_of_length_eq_zero (by omega)
          rw [this]; exact h2
  · obtain ⟨rfl, rfl⟩ : (-1 : Int) = a ∧ (0 : Int) = m := by injection e with e1 e2; exact ⟨e1, e2⟩
    omega
end Go.Proofs.Ytpfbkmpjneclpaa
