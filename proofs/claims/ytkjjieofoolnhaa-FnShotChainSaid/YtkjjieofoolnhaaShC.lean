/- The plain law of a chain of snapshots. No program in sight. -/
import Derived.Test.YtkjjieofoolnhaaShP
namespace Go.Proofs.Ytkjjieofoolnhaa
open Go.RowKit
set_option linter.unusedVariables false

theorem chain {N : List Int} {S : List (List Sv)} {a : Nat} {x : Int} (h : volB N S = true) (ha : a < N.length) (hx : 0 ≤ x ∧ x ≤ 255) (h5 : S.length + 2 ≤ 5) :
    ∃ (N1 N2 : List Int) (S1 S3 S4 : List (List Sv)), N1.length = N.length ∧ N2.length = N.length ∧ S1.length = S.length + 1 ∧ S3.length = S.length + 2 ∧ S4.length = S.length + 1 ∧
      takeN N S = N ∧ takeS N S = S ++ [[]] ∧ vwrN N (S ++ [[]]) a x = N1 ∧ vwrS N (S ++ [[]]) a x = S1 ∧ takeN N1 S1 = N1 ∧ takeS N1 S1 = S1 ++ [[]] ∧
      vwrN N1 (S1 ++ [[]]) a (255 - x) = N2 ∧ vwrS N1 (S1 ++ [[]]) a (255 - x) = S3 ∧ dropN N2 S3 ((S.length : Int) + 1) = N2 ∧ dropS N2 S3 ((S.length : Int) + 1) = S4 ∧
      shotV N2 S3 S.length = N ∧ shotV N2 S3 ((S.length : Int) + 1) = N1 ∧ shotV N2 S4 S.length = N ∧ sumN S1 ≤ sumN S + 1 ∧ sumN S3 ≤ sumN S + 2 ∧ sumN S4 ≤ 2 * sumN S + 4 := by
  have hv1 := take_vol h (by omega)
  have hl1 := (savS_len N (S ++ [[]]) a)
  have hv2 := write_vol (a := a) (x := x) hv1 ha hx
  have hL1 : (savS N (S ++ [[]]) a).length = S.length + 1 := by rw [hl1.1]; simp
  have ha1 : a < (N.set a x).length := by rw [List.length_set]; exact ha
  have hv3 := take_vol hv2 (by omega)
  have hx2 : 0 ≤ 255 - x ∧ 255 - x ≤ 255 := by omega
  have hl3 := savS_len (N.set a x) (savS N (S ++ [[]]) a ++ [[]]) a
  have hv4 := write_vol (a := a) (x := 255 - x) hv3 ha1 hx2
  have hL3 : (savS (N.set a x) (savS N (S ++ [[]]) a ++ [[]]) a).length = S.length + 2 := by rw [hl3.1, List.length_append, hL1]; rfl
  have hs1 : sumN (S ++ [[]]) = sumN S := by rw [sumN_append]; simp [sumN]
  have hs2 : sumN (savS N (S ++ [[]]) a ++ [[]]) = sumN (savS N (S ++ [[]]) a) := by rw [sumN_append]; simp [sumN]
  have b1 : vwrB N (S ++ [[]]) a x = true := by rw [vwrB, hv1, Bool.true_and, Bool.and_eq_true]; exact ⟨inB_iff.2 ⟨by omega, by omega⟩, inB_iff.2 hx⟩
  have b2 : vwrB (N.set a x) (savS N (S ++ [[]]) a ++ [[]]) a (255 - x) = true := by rw [vwrB, hv3, Bool.true_and, Bool.and_eq_true]; exact ⟨inB_iff.2 ⟨by omega, by omega⟩, inB_iff.2 hx2⟩
  have d1 : dropB ((N.set a x).set a (255 - x)) (savS (N.set a x) (savS N (S ++ [[]]) a ++ [[]]) a) ((S.length : Int) + 1) = true := drop_iff.2 ⟨hv4, by omega, by rw [hL3]; omega⟩
  have hdv := drop_vol (n := S.length + 1) hv4 (by rw [hL3]; omega)
  have w1 : shotV ((N.set a x).set a (255 - x)) (savS (N.set a x) (savS N (S ++ [[]]) a ++ [[]]) a) S.length = N := by
    rw [write_view hv3 ha1 hx2 (by rw [List.length_append, hL1]; simp; omega), take_view hv2 (by omega) (by omega), write_view hv1 ha hx (by simp), take_new h (by omega)]
  have w2 : shotV ((N.set a x).set a (255 - x)) (savS (N.set a x) (savS N (S ++ [[]]) a ++ [[]]) a) ((S.length : Int) + 1) = N.set a x := by
    have e : ((S.length : Int) + 1) = ((savS N (S ++ [[]]) a).length : Int) := by rw [hL1]; omega
    rw [e, write_view hv3 ha1 hx2 (by rw [List.length_append]; simp), take_new hv2 (by omega)]
  have hdl := dropM_len (savS (N.set a x) (savS N (S ++ [[]]) a ++ [[]]) a) (S.length + 1)
  have hel := sumN_erase (dropM (savS (N.set a x) (savS N (S ++ [[]]) a ++ [[]]) a) (S.length + 1)) (S.length + 1)
  have htn : ((S.length : Int) + 1).toNat = S.length + 1 := by omega
  refine ⟨N.set a x, (N.set a x).set a (255 - x), savS N (S ++ [[]]) a, savS (N.set a x) (savS N (S ++ [[]]) a ++ [[]]) a, (dropM (savS (N.set a x) (savS N (S ++ [[]]) a ++ [[]]) a) (S.length + 1)).eraseIdx (S.length + 1),
    by simp, by simp, hL1, hL3, by omega, ?_, ?_, ?_, ?_, ?_, ?_, ?_, ?_, ?_, ?_, w1, w2, ?_, by omega, by omega, by omega⟩
  · unfold takeN; rw [h]; rfl
  · unfold takeS; rw [h, if_pos rfl, if_neg (by omega)]
  · unfold vwrN; rw [b1, if_pos rfl, Int.toNat_natCast]
  · unfold vwrS; rw [b1, if_pos rfl]
  · unfold takeN; rw [hv2]; rfl
  · unfold takeS; rw [hv2, if_pos rfl, if_neg (by omega)]
  · unfold vwrN; rw [b2, if_pos rfl, Int.toNat_natCast]
  · unfold vwrS; rw [b2, if_pos rfl]
  · unfold dropN; rw [d1]; rfl
  · unfold dropS; rw [d1, if_pos rfl, htn]
  · have := drop_view (k := S.length) (n := S.length + 1) hv4 (by rw [hL3]; omega) (by rw [hL3]; omega)
    rw [if_neg (by omega)] at this
    rw [this, w1]
end Go.Proofs.Ytkjjieofoolnhaa
