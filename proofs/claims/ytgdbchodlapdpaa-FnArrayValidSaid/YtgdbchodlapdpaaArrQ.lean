/- Exclusive or over the values of an array: as naturals, and what writing and rebuilding do to it. No program in sight. -/
import Derived.Test.YtgdbchodlapdpaaArrU
namespace Go.Proofs.Ytgdbchodlapdpaa
open Go.RowKit
set_option linter.unusedVariables false

theorem xor_nat (a b : Nat) (ha : a < 4611686018427387904) (hb : b < 4611686018427387904) : bits BinOp.xor IntKind.i64 (a : Int) (b : Int) = ((a ^^^ b : Nat) : Int) := by
  have hx : a ^^^ b < 2 ^ 62 := Nat.xor_lt_two_pow ha hb
  show IntKind.i64.wrap ((BitVec.ofInt 64 (a : Int) ^^^ BitVec.ofInt 64 (b : Int)).toNat : Int) = _
  have e1 : ∀ q : Nat, q < 2 ^ 62 → (BitVec.ofInt 64 (q : Int)).toNat = q := fun q hq => by
    rw [BitVec.ofInt_natCast, BitVec.toNat_ofNat]; exact Nat.mod_eq_of_lt (by omega)
  rw [BitVec.toNat_xor, e1 a ha, e1 b hb]
  exact IntWalk.i64_in _ (by omega)
def cellN (L : List (List Int)) (row k : Nat) : Nat := ((L.getD k []).getD row 0).toNat
def xn (f : Nat → Nat) (skip : Int) : Nat → Nat
  | 0 => 0
  | k + 1 => if (k : Int) = skip then xn f skip k else xn f skip k ^^^ f k
theorem xn_lt {f : Nat → Nat} {skip : Int} : ∀ k : Nat, (∀ i : Nat, i < k → f i < 256) → xn f skip k < 256
  | 0, _ => by simp [xn]
  | k + 1, h => by
    have h1 := xn_lt (f := f) (skip := skip) k (fun i hi => h i (by omega))
    unfold xn
    split
    · exact h1
    · exact Nat.xor_lt_two_pow (n := 8) h1 (h k (by omega))
theorem xn_same {f g : Nat → Nat} {skip : Int} : ∀ k : Nat, (∀ i : Nat, i < k → (i : Int) ≠ skip → f i = g i) → xn f skip k = xn g skip k
  | 0, _ => rfl
  | k + 1, h => by
    unfold xn
    rw [xn_same k (fun i hi => h i (by omega))]
    split
    · rfl
    · rename_i hk
      rw [h k (by omega) hk]
theorem xn_none {f : Nat → Nat} {p : Nat} : ∀ k : Nat, k ≤ p → xn f (-1) k = xn f p k
  | 0, _ => rfl
  | k + 1, h => by
    unfold xn
    rw [xn_none (p := p) k (by omega), if_neg (by omega : ¬ ((k : Int) = -1)), if_neg (by omega : ¬ ((k : Int) = p))]
theorem xn_put {f : Nat → Nat} {p : Nat} : ∀ k : Nat, p < k → xn f (-1) k = xn f p k ^^^ f p
  | 0, h => absurd h (by omega)
  | k + 1, h => by
    unfold xn
    rw [if_neg (by omega : ¬ ((k : Int) = -1))]
    by_cases hk : k = p
    · subst hk
      rw [if_pos rfl, xn_none k (Nat.le_refl _)]
    · rw [if_neg (by omega : ¬ ((k : Int) = p)), xn_put (p := p) k (by omega), Nat.xor_assoc, Nat.xor_comm (f p), ← Nat.xor_assoc]
theorem xor_zero_iff (a b : Nat) : a ^^^ b = 0 ↔ a = b := by
  constructor
  · intro h
    have : a ^^^ b ^^^ b = 0 ^^^ b := by rw [h]
    rwa [Nat.xor_assoc, Nat.xor_self, Nat.xor_zero, Nat.zero_xor] at this
  · rintro rfl; exact Nat.xor_self a
/-- All exclusive or is 0 where the one of a disk is that of all others. -/
theorem xn_zero {f : Nat → Nat} {p k : Nat} (h : p < k) : xn f (-1) k = 0 ↔ f p = xn f p k := by
  rw [xn_put k h, xor_zero_iff]
  exact ⟨fun h => h.symm, fun h => h.symm⟩

theorem allB_mem {l : List Int} {lo hi : Int} (h : allB l lo hi = true) {x : Int} (hx : x ∈ l) : lo ≤ x ∧ x ≤ hi := by
  unfold allB at h
  rw [List.all_eq_true] at h
  exact inB_iff.1 (h x hx)
theorem allB_of {l : List Int} {lo hi : Int} (h : ∀ x ∈ l, lo ≤ x ∧ x ≤ hi) : allB l lo hi = true := by
  unfold allB
  rw [List.all_eq_true]
  exact fun x hx => inB_iff.2 (h x hx)
/-- The array's words: D disks of m sectors, all values in 0..255. -/
def ArrOk (L : List (List Int)) (D m : Nat) : Prop := L.length = D ∧ 2 ≤ D ∧ D ≤ 6 ∧ m ≤ 16 ∧ ∀ r ∈ L, r.length = m ∧ ∀ x ∈ r, 0 ≤ x ∧ x ≤ 255
theorem ArrOk.head {L : List (List Int)} {D m : Nat} (h : ArrOk L D m) : headN L = m := by
  obtain ⟨h1, h2, _, _, h3⟩ := h
  rw [headN_get (by omega)]
  exact (h3 _ (List.getElem_mem _)).1
theorem ArrOk.okB {L : List (List Int)} {D m : Nat} (h : ArrOk L D m) : arrB L = true := by
  have hh := h.head
  obtain ⟨h1, h2, h3, h4, h5⟩ := h
  simp only [arrB, Bool.and_eq_true, inB_iff, List.all_eq_true, rowB, decide_eq_true_eq]
  refine ⟨by omega, fun r hr => ?_⟩
  obtain ⟨a, b⟩ := h5 r hr
  exact ⟨⟨by omega, by omega⟩, allB_of b⟩
theorem ArrOk.of {L : List (List Int)} (h : arrB L = true) : ArrOk L L.length (headN L) := by
  obtain ⟨a, b, c, d⟩ := arr_parts h
  refine ⟨rfl, a, b, c, fun r hr => ?_⟩
  obtain ⟨i, hi, rfl⟩ := List.mem_iff_getElem.1 hr
  exact ⟨(d i hi).1, fun x hx => allB_mem (d i hi).2 hx⟩
/-- Number j of disk i. -/
def cellV (L : List (List Int)) (i j : Nat) : Int := (L.getD i []).getD j 0
theorem getD_get {l : List Int} {i : Nat} (h : i < l.length) : l.getD i 0 = l[i] := by rw [List.getD_eq_getElem?_getD, List.getElem?_eq_getElem h]; rfl
theorem ArrOk.row {L : List (List Int)} {D m i : Nat} (h : ArrOk L D m) (hi : i < D) : (L.getD i []).length = m ∧ ∀ x ∈ L.getD i [], 0 ≤ x ∧ x ≤ 255 := by
  rw [getD_row (by rw [h.1]; exact hi)]
  exact h.2.2.2.2 _ (List.getElem_mem _)
theorem ArrOk.cell {L : List (List Int)} {D m i j : Nat} (h : ArrOk L D m) (hi : i < D) (hj : j < m) : 0 ≤ cellV L i j ∧ cellV L i j ≤ 255 := by
  obtain ⟨a, b⟩ := h.row hi
  unfold cellV
  rw [getD_get (by omega)]
  exact b _ (List.getElem_mem _)
theorem ArrOk.cN {L : List (List Int)} {D m i j : Nat} (h : ArrOk L D m) (hi : i < D) (hj : j < m) : ((cellN L j i : Nat) : Int) = cellV L i j ∧ cellN L j i < 256 := by
  have := h.cell hi hj
  unfold cellN
  unfold cellV at *
  omega
theorem ArrOk.xT {L : List (List Int)} {D m row : Nat} {skip : Int} (h : ArrOk L D m) (hr : row < m) : ∀ k, k ≤ D → xorT L row skip k = ((xn (cellN L row) skip k : Nat) : Int)
  | 0, _ => rfl
  | k + 1, hk => by
    have h1 := ArrOk.xT (skip := skip) h hr k (by omega)
    have h2 := xn_lt (f := cellN L row) (skip := skip) k (fun i hi => (h.cN (by omega) hr).2)
    have h3 := h.cN (i := k) (by omega) hr
    unfold xorT xn
    rw [h1]
    split
    · rfl
    · unfold cellV at h3
      rw [← h3.1, xor_nat _ _ (by omega) (by omega)]
theorem ArrOk.xV {L : List (List Int)} {D m row : Nat} {skip : Int} (h : ArrOk L D m) (hr : row < m) : xorV L row skip = ((xn (cellN L row) skip D : Nat) : Int) ∧ xn (cellN L row) skip D < 256 := by
  unfold xorV
  rw [h.1]
  exact ⟨h.xT hr D (Nat.le_refl _), xn_lt D (fun i hi => (h.cN hi hr).2)⟩
theorem ArrOk.con {L : List (List Int)} {D m : Nat} (h : ArrOk L D m) : conB L = true ↔ ∀ r, r < m → xn (cellN L r) (-1) D = 0 := by
  unfold conB
  rw [h.okB, Bool.true_and, List.all_eq_true, h.head]
  constructor
  · intro hc r hr
    have := of_decide_eq_true (hc r (by simpa using hr))
    rw [(h.xV hr).1] at this
    omega
  · intro hc r hr
    simp at hr
    have := hc r hr
    rw [decide_eq_true_eq, (h.xV hr).1]
    omega
/-- One value changed. -/
theorem wrt1_get {L : List (List Int)} {k r : Nat} {x : Int} {i : Nat} : (wrt1 L k r x).getD i [] = if i = k ∧ k < L.length then (L.getD k []).set r x else L.getD i [] := by
  unfold wrt1
  simp only [List.getD_eq_getElem?_getD, List.getElem?_set]
  by_cases h : k = i
  · subst h
    by_cases h2 : k < L.length
    · simp [h2]
    · simp [h2]
  · rw [if_neg h, if_neg (fun e => h e.1.symm)]
theorem cellV_wrt1 {L : List (List Int)} {k r : Nat} {x : Int} {i j : Nat} (hk : k < L.length) (hr : r < (L.getD k []).length) : cellV (wrt1 L k r x) i j = if i = k ∧ j = r then x else cellV L i j := by
  unfold cellV
  rw [wrt1_get]
  by_cases h : i = k
  · subst h
    rw [if_pos ⟨rfl, hk⟩]
    by_cases h2 : j = r
    · subst h2
      rw [if_pos ⟨rfl, rfl⟩, List.getD_eq_getElem?_getD, List.getElem?_set_self hr]; rfl
    · rw [if_neg (fun e => h2 e.2), List.getD_eq_getElem?_getD, List.getElem?_set_ne (fun e => h2 e.symm), ← List.getD_eq_getElem?_getD]
  · rw [if_neg (fun e => h e.1), if_neg (fun e => h e.1)]
theorem ArrOk.set1 {L : List (List Int)} {D m k r : Nat} {x : Int} (h : ArrOk L D m) (hk : k < D) (hx : 0 ≤ x ∧ x ≤ 255) : ArrOk (wrt1 L k r x) D m := by
  obtain ⟨h1, h2, h3, h4, h5⟩ := h
  refine ⟨by rw [wrt1_length]; exact h1, h2, h3, h4, fun q hq => ?_⟩
  unfold wrt1 at hq
  rcases List.mem_or_eq_of_mem_set hq with hq | rfl
  · exact h5 q hq
  · rw [getD_row (by omega)]
    obtain ⟨a, b⟩ := h5 L[k] (List.getElem_mem _)
    refine ⟨by rw [List.length_set]; exact a, fun y hy => ?_⟩
    rcases List.mem_or_eq_of_mem_set hy with hy | rfl
    · exact b y hy
    · exact hx
theorem ArrOk.place {L : List (List Int)} {D m : Nat} {n : Int} (h : ArrOk L D m) : placeB L n = true ↔ 0 ≤ n ∧ n ≤ (m : Int) * ((D : Int) - 1) - 1 := by
  rw [placeB, h.okB, Bool.true_and, h.head, h.1, inB_iff]
theorem wrtV_eq {L : List (List Int)} {n v : Int} (hp : placeB L n = true) (hv : inB v 0 255 = true) : ∃ k r : Nat, plK L.length n = k ∧ plR L.length n = r ∧ k < L.length ∧ r < headN L ∧
    wrtV L n v = wrt1 (wrt1 L k r v) (parP L.length r) r (xorV (wrt1 L k r v) r (parP L.length r)) := by
  obtain ⟨k, r, hk, hr, hkl, hrl, _⟩ := place_in hp
  refine ⟨k, r, hk, hr, hkl, hrl, ?_⟩
  unfold wrtV
  rw [hp, hv]
  simp only [Bool.and_self, if_true, wrtL, hk, hr, Int.toNat_natCast]
theorem ArrOk.wrt {L : List (List Int)} {D m : Nat} {n v : Int} (h : ArrOk L D m) (hp : placeB L n = true) (hv : inB v 0 255 = true) : ArrOk (wrtV L n v) D m := by
  obtain ⟨k, r, hk, hr, hkl, hrl, e⟩ := wrtV_eq hp hv
  rw [e, h.1]
  rw [h.head] at hrl
  rw [h.1] at hkl
  have h1 := h.set1 (k := k) (r := r) (x := v) hkl (inB_iff.1 hv)
  have h2 := h1.xV (skip := (parP D r : Int)) hrl
  exact h1.set1 (parP_lt h.2.1) (by omega)
end Go.Proofs.Ytgdbchodlapdpaa
