/- The plain law of arrays of disks. No program in sight. -/
import Derived.Test.YtgdbchodlapdpaaOpenW
import Derived.Test.YtgdbchodlapdpaaInts
namespace Go.Proofs.Ytgdbchodlapdpaa
open Go.RowKit
set_option linter.unusedVariables false

def headN (L : List (List Int)) : Nat := (L.headD []).length
def rowB (m : Nat) (r : List Int) : Bool := decide (r.length = m) && decide ((r.length : Int) ≤ 16) && allB r 0 255
def arrB (L : List (List Int)) : Bool := inB L.length 2 6 && L.all (rowB (headN L))
theorem headN_get {L : List (List Int)} (h : 0 < L.length) : headN L = L[0].length := by
  cases L with
  | nil => simp at h
  | cons a t => rfl
theorem all_step {α : Type} {f : α → Bool} {L : List α} {k : Nat} (h : k < L.length) : (L.take (k + 1)).all f = ((L.take k).all f && f L[k]) := by
  rw [List.take_succ_eq_append_getElem h, List.all_append]
  simp
theorem all_no {α : Type} {f : α → Bool} {L : List α} {k : Nat} (h : k < L.length) (hn : f L[k] = false) : L.all f = false := by
  rw [List.all_eq_false]
  exact ⟨L[k], List.getElem_mem h, by simp [hn]⟩
theorem arr_parts {L : List (List Int)} (h : arrB L = true) : 2 ≤ L.length ∧ L.length ≤ 6 ∧ headN L ≤ 16 ∧ ∀ k (hk : k < L.length), L[k].length = headN L ∧ allB L[k] 0 255 = true := by
  simp only [arrB, Bool.and_eq_true, inB_iff, List.all_eq_true, rowB, decide_eq_true_eq] at h
  obtain ⟨⟨h1, h2⟩, h3⟩ := h
  refine ⟨by omega, by omega, ?_, fun k hk => ?_⟩
  · have := h3 L[0] (List.getElem_mem (by omega))
    omega
  · have := h3 L[k] (List.getElem_mem hk)
    exact ⟨this.1.1, this.2⟩
/-- The exclusive or of a row without a disk, over the first k disks. -/
def xorT (L : List (List Int)) (row : Nat) (skip : Int) : Nat → Int
  | 0 => 0
  | k + 1 => if (k : Int) = skip then xorT L row skip k else bits BinOp.xor IntKind.i64 (xorT L row skip k) ((L.getD k []).getD row 0)
def xorV (L : List (List Int)) (row : Nat) (skip : Int) : Int := xorT L row skip L.length
theorem xorT_step {L : List (List Int)} {row k : Nat} {skip : Int} (h : k < L.length) (hr : row < L[k].length) : xorT L row skip (k + 1) = if (k : Int) = skip then xorT L row skip k else bits BinOp.xor IntKind.i64 (xorT L row skip k) L[k][row] := by
  have e1 : L.getD k [] = L[k] := by rw [List.getD_eq_getElem?_getD, List.getElem?_eq_getElem h]; rfl
  have e2 : L[k].getD row 0 = L[k][row] := by rw [List.getD_eq_getElem?_getD, List.getElem?_eq_getElem hr]; rfl
  rw [xorT, e1, e2]
def conB (L : List (List Int)) : Bool := arrB L && (List.range (headN L)).all fun r => decide (xorV L r (-1) = 0)
/-- The disk and the row of a data place. -/
def plRow (L : List (List Int)) (n : Nat) : Nat := n / (L.length - 1)
def plDisk (L : List (List Int)) (n : Nat) : Nat := if n % (L.length - 1) < L.length - 1 - plRow L n % L.length then n % (L.length - 1) else n % (L.length - 1) + 1
def placeB (L : List (List Int)) (n : Int) : Bool := arrB L && inB n 0 ((headN L : Int) * ((L.length : Int) - 1) - 1)
def readV (L : List (List Int)) (n failed : Int) : Int :=
  if (placeB L n && inB failed (-1) ((L.length : Int) - 1)) = true then
    (if (plDisk L n.toNat : Int) = failed then xorV L (plRow L n.toNat) (plDisk L n.toNat) else (L.getD (plDisk L n.toNat) []).getD (plRow L n.toNat) 0)
  else -1
theorem place_parts {L : List (List Int)} {n : Int} (h : placeB L n = true) : arrB L = true ∧ 0 ≤ n ∧ n.toNat < headN L * (L.length - 1) ∧ plRow L n.toNat < headN L ∧ plDisk L n.toNat < L.length := by
  simp only [placeB, Bool.and_eq_true, inB_iff] at h
  obtain ⟨h1, h2, h3⟩ := h
  obtain ⟨a, b, c, d⟩ := arr_parts h1
  have e : ((headN L * (L.length - 1) : Nat) : Int) = (headN L : Int) * ((L.length : Int) - 1) := by
    rw [Int.natCast_mul, Int.natCast_sub (by omega)]
    rfl
  have h4 : n.toNat < headN L * (L.length - 1) := by omega
  have hm : n.toNat % (L.length - 1) < L.length - 1 := Nat.mod_lt _ (by omega)
  refine ⟨h1, h2, h4, ?_, ?_⟩
  · unfold plRow
    exact Nat.div_lt_of_lt_mul (by rw [Nat.mul_comm]; exact h4)
  · unfold plDisk
    split <;> omega
end Go.Proofs.Ytgdbchodlapdpaa
