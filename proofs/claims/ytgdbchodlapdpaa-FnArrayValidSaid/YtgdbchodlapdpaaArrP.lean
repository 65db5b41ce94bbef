/- The plain law of arrays of disks. No program in sight. -/
import Derived.Test.YtgdbchodlapdpaaOpenW
import Derived.Test.YtgdbchodlapdpaaInts
namespace Go.Proofs.Ytgdbchodlapdpaa
open Go.RowKit
set_option linter.unusedVariables false

def headN (L : List (List Int)) : Nat := (L.headD []).length
def rowB (m : Nat) (r : List Int) : Bool := decide (r.length = m) && decide ((r.length : Int) ≤ 16) && allB r 0 255
def arrB (L : List (List Int)) : Bool := inB L.length 2 6 && L.all (rowB (headN L))
theorem headN_get {L : List (List Int)} (h : 0 < L.length) : headN L = L[0].length := by
  cases L with
  | nil => simp at h
  | cons a t => rfl
theorem all_step {α : Type} {f : α → Bool} {L : List α} {k : Nat} (h : k < L.length) : (L.take (k + 1)).all f = ((L.take k).all f && f L[k]) := by
  rw [List.take_succ_eq_append_getElem h, List.all_append]
  simp
theorem all_no {α : Type} {f : α → Bool} {L : List α} {k : Nat} (h : k < L.length) (hn : f L[k] = false) : L.all f = false := by
  rw [List.all_eq_false]
  exact ⟨L[k], List.getElem_mem h, by simp [hn]⟩
theorem arr_parts {L : List (List Int)} (h : arrB L = true) : 2 ≤ L.length ∧ L.length ≤ 6 ∧ headN L ≤ 16 ∧ ∀ k (hk : k < L.length), L[k].length = headN L ∧ allB L[k] 0 255 = true := by
  simp only [arrB, Bool.and_eq_true, inB_iff, List.all_eq_true, rowB, decide_eq_true_eq] at h
  obtain ⟨⟨h1, h2⟩, h3⟩ := h
  refine ⟨by omega, by omega, ?_, fun k hk => ?_⟩
  · have := h3 L[0] (List.getElem_mem (by omega))
    omega
  · have := h3 L[k] (List.getElem_mem hk)
    exact ⟨this.1.1, this.2⟩
/-- The exclusive or of a row without a disk, over the first k disks. -/
def xorT (L : List (List Int)) (row : Nat) (skip : Int) : Nat → Int
  | 0 => 0
  | k + 1 => if (k : Int) = skip then xorT L row skip k else bits BinOp.xor IntKind.i64 (xorT L row skip k) ((L.getD k []).getD row 0)
def xorV (L : List (List Int)) (row : Nat) (skip : Int) : Int := xorT L row skip L.length
theorem xorT_step {L : List (List Int)} {row k : Nat} {skip : Int} (h : k < L.length) (hr : row < L[k].length) : xorT L row skip (k + 1) = if (k : Int) = skip then xorT L row skip k else bits BinOp.xor IntKind.i64 (xorT L row skip k) L[k][row] := by
  have e1 : L.getD k [] = L[k] := by rw [List.getD_eq_getElem?_getD, List.getElem?_eq_getElem h]; rfl
  have e2 : L[k].getD row 0 = L[k][row] := by rw [List.getD_eq_getElem?_getD, List.getElem?_eq_getElem hr]; rfl
  rw [xorT, e1, e2]
def conB (L : List (List Int)) : Bool := arrB L && (List.range (headN L)).all fun r => decide (xorV L r (-1) = 0)
/-- The row and the disk of a data place of an array of D disks. -/
def plR (D n : Int) : Int := n / (D - 1)
def plK (D n : Int) : Int := if n % (D - 1) < D - 1 - n / (D - 1) % D then n % (D - 1) else n % (D - 1) + 1
def placeB (L : List (List Int)) (n : Int) : Bool := arrB L && inB n 0 ((headN L : Int) * ((L.length : Int) - 1) - 1)
def readV (L : List (List Int)) (n failed : Int) : Int :=
  if (placeB L n && inB failed (-1) ((L.length : Int) - 1)) = true then
    (if plK L.length n = failed then xorV L (plR L.length n).toNat (plK L.length n) else (L.getD (plK L.length n).toNat []).getD (plR L.length n).toNat 0)
  else -1
theorem prod_b {m D : Int} (h0 : 0 ≤ m) (h1 : m ≤ 16) (h2 : 2 ≤ D) (h3 : D ≤ 6) : 0 ≤ m * (D - 1) ∧ m * (D - 1) ≤ 80 := by
  refine ⟨Int.mul_nonneg h0 (by omega), ?_⟩
  have h4 : m * (D - 1) ≤ 16 * (D - 1) := Int.mul_le_mul_of_nonneg_right h1 (by omega)
  omega
theorem pl_facts {m D n : Int} (h1 : m ≤ 16) (h2 : 2 ≤ D) (h3 : D ≤ 6) (n0 : 0 ≤ n) (n1 : n ≤ m * (D - 1) - 1) :
    0 ≤ n / (D - 1) ∧ n / (D - 1) < m ∧ 0 ≤ n % (D - 1) ∧ n % (D - 1) < D - 1 ∧ 0 ≤ n / (D - 1) % D ∧ n / (D - 1) % D < D ∧ 0 ≤ plK D n ∧ plK D n < D := by
  have a1 : 0 ≤ n / (D - 1) := Int.ediv_nonneg n0 (by omega)
  have a2 : n / (D - 1) < m := Int.ediv_lt_of_lt_mul (by omega) (by omega)
  have a3 : 0 ≤ n % (D - 1) := Int.emod_nonneg _ (by omega)
  have a4 : n % (D - 1) < D - 1 := Int.emod_lt_of_pos _ (by omega)
  have a5 : 0 ≤ n / (D - 1) % D := Int.emod_nonneg _ (by omega)
  have a6 : n / (D - 1) % D < D := Int.emod_lt_of_pos _ (by omega)
  refine ⟨a1, a2, a3, a4, a5, a6, ?_, ?_⟩
  · unfold plK; split <;> omega
  · unfold plK; split <;> omega
end Go.Proofs.Ytgdbchodlapdpaa
