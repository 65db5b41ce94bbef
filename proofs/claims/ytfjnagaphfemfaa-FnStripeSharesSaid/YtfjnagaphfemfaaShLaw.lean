/- The plain law of shares: they add up, and differ by at most the number of sectors of a chunk. No program in sight. -/
import Derived.Test.YtfjnagaphfemfaaShares
import Derived.Test.YtfjnagaphfemfaaStrLaw
namespace Go.Proofs.Ytfjnagaphfemfaa
set_option linter.unusedVariables false

/-- How many of the sectors below x lie on disk j. -/
def G (x : Int) (D : Int) (c j : Int) : Int := ((x / c + D - 1 - j) / D) * c + (if x / c % D = j then x % c else 0)

theorem D_cases {D : Int} (h : 1 ≤ D ∧ D ≤ 6) : D = 1 ∨ D = 2 ∨ D = 3 ∨ D = 4 ∨ D = 5 ∨ D = 6 := by omega

theorem q_step (n D j : Int) (hn : 0 ≤ n) (hD : 1 ≤ D ∧ D ≤ 6) (hj : 0 ≤ j ∧ j < D) :
    (n + 1 + D - 1 - j) / D = (n + D - 1 - j) / D + (if n % D = j then 1 else 0) := by
  rcases D_cases hD with rfl | rfl | rfl | rfl | rfl | rfl <;> split <;> omega

theorem G_step (x D c j : Int) (hx : 0 ≤ x) (hD : 1 ≤ D ∧ D ≤ 6) (hc : 1 ≤ c) (hj : 0 ≤ j ∧ j < D) :
    G (x + 1) D c j = G x D c j + (if x / c % D = j then 1 else 0) := by
  have ea := emod_ediv x c
  have f1 : 0 ≤ x / c := Int.ediv_nonneg hx (by omega)
  have f3 : 0 ≤ x % c := Int.emod_nonneg _ (by omega)
  have f4 : x % c < c := Int.emod_lt_of_pos _ (by omega)
  unfold G
  by_cases hr : x % c + 1 < c
  · have := div_of (x / c) (x % c + 1) c (by omega) hr
    rw [show x / c * c + (x % c + 1) = x + 1 by omega] at this
    rw [this.1, this.2]
    split <;> omega
  · have := div_of (x / c + 1) 0 c (by omega) (by omega)
    rw [show (x / c + 1) * c + 0 = x + 1 by rw [Int.add_mul]; omega] at this
    rw [this.1, this.2, q_step (x / c) D j f1 hD hj, Int.add_mul]
    have e0 : (if (x / c + 1) % D = j then (0 : Int) else 0) = 0 := by split <;> rfl
    rw [e0]
    split <;> omega

theorem q_order (n D j e : Int) (hn : 0 ≤ n) (hD : 1 ≤ D ∧ D ≤ 6) (hj : 0 ≤ j ∧ j < e) (he : e < D) :
    ((n + D - 1 - j) / D = (n + D - 1 - e) / D ∧ n % D ≠ e) ∨ ((n + D - 1 - j) / D = (n + D - 1 - e) / D + 1 ∧ n % D ≠ j) := by
  rcases D_cases hD with rfl | rfl | rfl | rfl | rfl | rfl <;> omega

theorem G_order (x D c j e : Int) (hx : 0 ≤ x) (hD : 1 ≤ D ∧ D ≤ 6) (hc : 1 ≤ c) (hj : 0 ≤ j ∧ j < e) (he : e < D) :
    0 ≤ G x D c j - G x D c e ∧ G x D c j - G x D c e ≤ c := by
  have f1 : 0 ≤ x / c := Int.ediv_nonneg hx (by omega)
  have f3 : 0 ≤ x % c := Int.emod_nonneg _ (by omega)
  have f4 : x % c < c := Int.emod_lt_of_pos _ (by omega)
  unfold G
  rcases q_order (x / c) D j e f1 hD hj he with ⟨h1, h2⟩ | ⟨h1, h2⟩
  · rw [h1, if_neg h2]
    split <;> omega
  · rw [h1, Int.add_mul, if_neg h2]
    split <;> omega

theorem getD_set (l : List Int) (i j : Nat) (v : Int) (hi : i < l.length) : (l.set i v).getD j 0 = if i = j then v else l.getD j 0 := by
  simp only [List.getD_eq_getElem?_getD, List.getElem?_set]
  split
  · rename_i h; subst h; simp
  · rfl

theorem shl_G (a : Int) (D : Nat) (c : Int) (ha : 0 ≤ a) (hD : 1 ≤ (D : Int) ∧ (D : Int) ≤ 6) (hc : 1 ≤ c) (k : Nat) (j : Nat) (hj : j < D) :
    (shl a D c k).getD j 0 = G (a + k) D c j - G a D c j := by
  induction k with
  | zero =>
    simp only [shl, List.getD_eq_getElem?_getD, List.getElem?_replicate, hj, if_true, Option.getD_some]
    have : a + ((0 : Nat) : Int) = a := by omega
    rw [this]; omega
  | succ k ih =>
    have hs := G_step (a + k) D c j (by omega) hD hc (by omega)
    have f5 : 0 ≤ (a + k) / c % (D : Int) := Int.emod_nonneg _ (by omega)
    have f6 : (a + k) / c % (D : Int) < D := Int.emod_lt_of_pos _ (by omega)
    have e : a + ((k + 1 : Nat) : Int) = a + k + 1 := by omega
    rw [shl, getD_set _ _ _ _ (by rw [shl_length]; omega), e, hs]
    by_cases h : (a + k) / c % (D : Int) = j
    · rw [if_pos (by omega), if_pos h]
      have h2 : ((a + k) / c % (D : Int)).toNat = j := by omega
      rw [h2]; omega
    · rw [if_neg (by omega), if_neg h]; omega

theorem shl_spread (a : Int) (D : Nat) (c : Int) (ha : 0 ≤ a) (hD : 1 ≤ (D : Int) ∧ (D : Int) ≤ 6) (hc : 1 ≤ c) (k : Nat) (i j : Nat) (hi : i < D) (hj : j < D) :
    (shl a D c k).getD i 0 - (shl a D c k).getD j 0 ≤ c := by
  rw [shl_G a D c ha hD hc k i hi, shl_G a D c ha hD hc k j hj]
  rcases Nat.lt_trichotomy i j with h | h | h
  · have g1 := G_order (a + k) D c i j (by omega) hD hc (by omega) (by omega)
    have g2 := G_order a D c i j ha hD hc (by omega) (by omega)
    omega
  · subst h; omega
  · have g1 := G_order (a + k) D c j i (by omega) hD hc (by omega) (by omega)
    have g2 := G_order a D c j i ha hD hc (by omega) (by omega)
    omega

theorem sum_set (l : List Int) (i : Nat) (hi : i < l.length) : (l.set i (l.getD i 0 + 1)).sum = l.sum + 1 := by
  induction l generalizing i with
  | nil => simp at hi
  | cons x r ih =>
    cases i with
    | zero => simp; omega
    | succ i =>
      have := ih i (by simpa using hi)
      simp only [List.set_cons_succ, List.sum_cons, List.getD_cons_succ] at this ⊢
      omega

theorem shl_sum (a : Int) (D : Nat) (c : Int) (hD : 1 ≤ D) (k : Nat) : (shl a D c k).sum = k := by
  induction k with
  | zero => simp [shl]
  | succ k ih =>
    have f5 : 0 ≤ (a + k) / c % (D : Int) := Int.emod_nonneg _ (by omega)
    have f6 : (a + k) / c % (D : Int) < D := Int.emod_lt_of_pos _ (by omega)
    rw [shl, sum_set _ _ (by rw [shl_length]; omega), ih]
    omega
end Go.Proofs.Ytfjnagaphfemfaa
