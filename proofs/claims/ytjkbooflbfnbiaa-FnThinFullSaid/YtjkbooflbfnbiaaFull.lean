/- Filling a new volume: what the writes leave, in plain Lean. -/
import Derived.Test.YtjkbooflbfnbiaaThinI
import Derived.Test.YtjkbooflbfnbiaaNewLaw
namespace Go.Proofs.Ytjkbooflbfnbiaa
open Go.RowKit

def fillW (N l j : Nat) : List Int := (List.range N).map fun i => if l ≤ i ∧ i < j then (i : Int) else -1
def fillP (M j : Nat) : List Int := (List.range M).map fun i => if i < j then (9 : Int) else 0
@[simp] theorem fillW_len (N l j : Nat) : (fillW N l j).length = N := by simp [fillW]
@[simp] theorem fillP_len (M j : Nat) : (fillP M j).length = M := by simp [fillP]
theorem fillW_get {N l j i : Nat} (h : i < (fillW N l j).length) : (fillW N l j)[i] = if l ≤ i ∧ i < j then (i : Int) else -1 := by simp [fillW]
theorem fillP_get {M j i : Nat} (h : i < (fillP M j).length) : (fillP M j)[i] = if i < j then (9 : Int) else 0 := by simp [fillP]
theorem fillW_getD {N l j i : Nat} (h : i < N) : (fillW N l j).getD i 0 = if l ≤ i ∧ i < j then (i : Int) else -1 := by
  rw [List.getD_eq_getElem?_getD, List.getElem?_eq_getElem (by simpa using h), Option.getD_some, fillW_get]
theorem mem_fillW {N l j : Nat} {x : Int} : x ∈ fillW N l j ↔ ∃ i, i < N ∧ (if l ≤ i ∧ i < j then (i : Int) else -1) = x := by
  simp [fillW]
theorem fill_valid {N l j : Nat} {P : List Int} (hN : N ≤ 64) (hP : diskB P = true) (hj : j ≤ P.length) : thinB (fillW N l j) P = true := by
  have h1 : oneB (fillW N l j) = true := by
    unfold oneB
    rw [decide_eq_true_iff]
    intro i hi h0 hm
    rw [fillW_len] at hi
    rw [fillW_getD hi] at h0 hm
    obtain ⟨q, hq, he⟩ := List.getElem_of_mem hm
    rw [List.getElem_take, fillW_get] at he
    simp at hq
    split at he <;> split at he <;> simp_all <;> omega
  have h2 : allB (fillW N l j) (-1) ((P.length : Int) - 1) = true := by
    unfold allB
    rw [List.all_eq_true]
    intro x hx
    obtain ⟨i, hi, rfl⟩ := mem_fillW.1 hx
    rw [inB_iff]
    split <;> omega
  simp only [thinB, fillW_len, h1, h2, hP, Bool.and_true, decide_eq_true_iff]
  omega
theorem fillP_disk {M j : Nat} (hM : M ≤ 64) : diskB (fillP M j) = true := by
  have h2 : allB (fillP M j) 0 255 = true := by
    unfold allB
    rw [List.all_eq_true]
    intro x hx
    obtain ⟨i, hi, rfl⟩ := List.getElem_of_mem hx
    rw [fillP_get, inB_iff]
    split <;> omega
  simp only [diskB, fillP_len, h2, Bool.and_true, decide_eq_true_iff]
  omega
theorem new_fill (N M : Nat) : List.replicate N (-1) = fillW N 0 0 ∧ List.replicate M 0 = fillP M 0 :=
  ⟨List.ext_getElem (by simp) (by simp [fillW]), List.ext_getElem (by simp) (by simp [fillP])⟩
theorem fill_low {N M j : Nat} (hj : j ≤ M) (hN : j ≤ N) : lowP (fillW N 0 j) M = j := by
  refine low_is ?_ (fun q hq => mem_fillW.2 ⟨q, by omega, by simp [hq]⟩) hj
  intro h
  obtain ⟨i, hi, he⟩ := mem_fillW.1 h
  split at he <;> omega
theorem fill_step {N M k : Nat} (hN : N ≤ 64) (hM : M ≤ 64) (hk : k < N) :
    wrV (fillW N 0 (min k M)) (fillP M (min k M)) k 9 = (fillW N 0 (min (k + 1) M), fillP M (min (k + 1) M), decide (k < M)) := by
  have hs : secB (fillW N 0 (min k M)) (fillP M (min k M)) k = true := by
    rw [secB, fill_valid hN (fillP_disk hM) (by simp; omega), Bool.true_and, inB_iff, fillW_len]
    omega
  rw [wrV, if_pos ⟨hs, by rw [inB_iff]; omega⟩]
  have hg : (fillW N 0 (min k M)).getD (k : Int).toNat 0 = -1 := by
    rw [Int.toNat_natCast, fillW_getD hk, if_neg (by omega)]
  rw [hg, if_neg (by omega), fillP_len, fill_low (by omega) (by omega)]
  by_cases h : k < M
  · rw [if_neg (by omega)]
    have e1 : min k M = k := by omega
    have e2 : min (k + 1) M = k + 1 := by omega
    rw [e1, e2, Int.toNat_natCast, decide_eq_true h]
    refine Prod.ext ?_ (Prod.ext ?_ rfl)
    · refine List.ext_getElem (by simp) fun i h1 h2 => ?_
      rw [List.getElem_set, fillW_get, fillW_get]
      (repeat' split) <;> omega
    · refine List.ext_getElem (by simp) fun i h1 h2 => ?_
      rw [List.getElem_set, fillP_get, fillP_get]
      (repeat' split) <;> omega
  · rw [if_pos (by omega), decide_eq_false h]
    have e2 : min (k + 1) M = min k M := by omega
    rw [e2]
theorem fill_end {N M : Nat} (hN : N ≤ 64) (hM : M ≤ 64) (h0 : 0 < N) (h1 : 0 < M) :
    (wrV (trimW (fillW N 0 (min N M)) (fillP M (min N M)) 0) (trimP (fillW N 0 (min N M)) (fillP M (min N M)) 0) ((N : Int) - 1) 7).2.2 = true := by
  have hs : secB (fillW N 0 (min N M)) (fillP M (min N M)) 0 = true := by
    rw [secB, fill_valid hN (fillP_disk hM) (by simp; omega), Bool.true_and, inB_iff, fillW_len]
    omega
  have hg : (fillW N 0 (min N M)).getD (0 : Int).toNat 0 = 0 := by
    rw [Int.toNat_zero, fillW_getD h0, if_pos (by omega)]; rfl
  have hW : trimW (fillW N 0 (min N M)) (fillP M (min N M)) 0 = fillW N 1 (min N M) := by
    rw [trimW, if_pos hs]
    refine List.ext_getElem (by simp) fun i h1 h2 => ?_
    rw [List.getElem_set, fillW_get, fillW_get]
    simp only [Int.toNat_zero]
    (repeat' split) <;> omega
  obtain ⟨P, hP⟩ : ∃ P, trimP (fillW N 0 (min N M)) (fillP M (min N M)) 0 = P := ⟨_, rfl⟩
  have hl : P.length = M := by
    rw [← hP, trimP, if_pos hs]
    split <;> simp
  have hd : diskB P = true := by
    rw [← hP, trimP, if_pos hs, hg, if_pos (by omega)]
    have h2 : allB ((fillP M (min N M)).set (0 : Int).toNat 0) 0 255 = true := by
      unfold allB
      rw [List.all_eq_true]
      intro x hx
      obtain ⟨i, hi, rfl⟩ := List.getElem_of_mem hx
      rw [List.getElem_set, inB_iff]
      split
      · omega
      · rw [fillP_get]; split <;> omega
    simp only [diskB, List.length_set, fillP_len, h2, Bool.and_true, decide_eq_true_iff]
    omega
  rw [hW, hP]
  have hs' : secB (fillW N 1 (min N M)) P ((N : Int) - 1) = true := by
    rw [secB, fill_valid hN hd (by omega), Bool.true_and, inB_iff, fillW_len]
    omega
  rw [wrV, if_pos ⟨hs', by rw [inB_iff]; omega⟩]
  split
  · rfl
  · have hlow : lowP (fillW N 1 (min N M)) P.length = 0 := by
      refine low_is ?_ (fun q hq => absurd hq (by omega)) (by omega)
      intro h
      obtain ⟨i, hi, he⟩ := mem_fillW.1 h
      split at he <;> omega
    rw [hlow, if_neg (by omega)]
end Go.Proofs.Ytjkbooflbfnbiaa
