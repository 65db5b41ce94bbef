/- The plain laws of arrays of disks: what writing, reading and rebuilding do to the exclusive or of a row. No program in sight. -/
import Derived.Test.YtgdbchodlapdpaaArrQ
namespace Go.Proofs.Ytgdbchodlapdpaa
open Go.RowKit
set_option linter.unusedVariables false

theorem cons_two {L : List (List Int)} (h : 2 ≤ L.length) : ∃ a b t, L = a :: b :: t := by
  cases L with
  | nil => simp at h
  | cons a t =>
    cases t with
    | nil => simp at h
    | cons b t => exact ⟨a, b, t, rfl⟩
/-- An array with a longer first disk is no array. -/
theorem arr_longer {L : List (List Int)} (h : arrB L = true) : arrB ((L.headD [] ++ [0]) :: L.tail) = false := by
  have h1 := ArrOk.of h
  obtain ⟨a, b, t, rfl⟩ := cons_two h1.2.1
  have hb := (h1.2.2.2.2 b (by simp)).1
  have ha := (h1.2.2.2.2 a (by simp)).1
  cases hx : arrB (((a :: b :: t).headD [] ++ [0]) :: (a :: b :: t).tail)
  · rfl
  · have h2 := ArrOk.of hx
    have h3 := (h2.2.2.2.2 b (by simp)).1
    have h4 : headN (((a :: b :: t).headD [] ++ [0]) :: (a :: b :: t).tail) = a.length + 1 := by simp [headN]
    omega
theorem arr_one {L : List (List Int)} (h : L.length ≤ 1) : arrB L = false := by
  cases hx : arrB L
  · rfl
  · have := (ArrOk.of hx).2.1
    omega
theorem ArrOk.xz {L : List (List Int)} {D m r p : Nat} (h : ArrOk L D m) (hr : r < m) (hp : p < D) : xn (cellN L r) (-1) D = 0 ↔ cellV L p r = xorV L r p := by
  have h1 := h.cN hp hr
  have h2 := h.xV (skip := (p : Int)) hr
  rw [xn_zero hp, h2.1, ← h1.1]
  omega
theorem cellN_eq (L : List (List Int)) (r i : Nat) : cellN L r i = (cellV L i r).toNat := rfl
theorem ArrOk.cellW {L : List (List Int)} {D m k r : Nat} {x : Int} (h : ArrOk L D m) (hk : k < D) (hr : r < m) (i j : Nat) : cellV (wrt1 L k r x) i j = if i = k ∧ j = r then x else cellV L i j :=
  cellV_wrt1 (by rw [h.1]; exact hk) (by rw [(h.row hk).1]; exact hr)
/-- A row's exclusive or does not see what is written elsewhere. -/
theorem ArrOk.xnW {L : List (List Int)} {D m k r row : Nat} {x skip : Int} (h : ArrOk L D m) (hk : k < D) (hr : r < m) (hne : row ≠ r ∨ (k : Int) = skip) :
    xn (cellN (wrt1 L k r x) row) skip D = xn (cellN L row) skip D := by
  refine xn_same D (fun i _ hi => ?_)
  rw [cellN_eq, cellN_eq, h.cellW hk hr]
  rw [if_neg]
  rintro ⟨h1, h2⟩
  rcases hne with hne | hne
  · exact hne h2
  · exact hi (by rw [h1]; exact hne)
/-- Where a place lies: not on the row's parity disk. -/
theorem plK_ne {D n : Int} {k r p : Nat} (h2 : 2 ≤ D) (hk : plK D n = k) (hr : plR D n = r) (hp : D - 1 - (r : Int) % D = p) : k ≠ p := by
  unfold plK at hk
  unfold plR at hr
  rw [hr] at hk
  intro e
  subst e
  split at hk <;> omega
theorem pl_inj {D a b : Int} {k r : Int} (h2 : 2 ≤ D) (ka : plK D a = k) (ra : plR D a = r) (kb : plK D b = k) (rb : plR D b = r) : a = b := by
  unfold plK plR at *
  rw [ra] at ka
  rw [rb] at kb
  have e1 := Int.mul_ediv_add_emod a (D - 1)
  have e2 := Int.mul_ediv_add_emod b (D - 1)
  rw [ra] at e1
  rw [rb] at e2
  have : a % (D - 1) = b % (D - 1) := by
    split at ka <;> split at kb <;> omega
  omega
/-- What an array is after a value was written. -/
theorem ArrOk.written {L : List (List Int)} {D m : Nat} {n v : Int} (h : ArrOk L D m) (hp : placeB L n = true) (hv : inB v 0 255 = true) :
    ∃ k r : Nat, plK D n = k ∧ plR D n = r ∧ k < D ∧ r < m ∧ k ≠ parP D r ∧ parP D r < D ∧ ArrOk (wrtV L n v) D m ∧
      (∀ i j, ¬ (i = parP D r ∧ j = r) → cellV (wrtV L n v) i j = if i = k ∧ j = r then v else cellV L i j) ∧
      (∀ row, row ≠ r → xn (cellN (wrtV L n v) row) (-1) D = xn (cellN L row) (-1) D) ∧ xn (cellN (wrtV L n v) r) (-1) D = 0 := by
  have hw := h.wrt hp hv
  obtain ⟨k, r, hk, hr, hkl, hrl, e⟩ := wrtV_eq hp hv
  rw [h.head] at hrl
  rw [h.1] at hkl hk hr e
  have hpl := parP_lt (D := D) (r := r) h.2.1
  have h1 := h.set1 (k := k) (r := r) (x := v) hkl (inB_iff.1 hv)
  have hX := h1.xV (skip := (parP D r : Int)) hrl
  have h2 := h1.set1 (k := parP D r) (r := r) (x := xorV (wrt1 L k r v) r (parP D r)) hpl (by omega)
  refine ⟨k, r, hk, hr, hkl, hrl, plK_ne (by have := h.2.1; omega) hk hr (parP_int h.2.1), hpl, hw, fun i j hij => ?_, fun row hrow => ?_, ?_⟩
  · rw [e, h1.cellW hpl hrl, if_neg hij, h.cellW hkl hrl]
  · rw [e, h1.xnW hpl hrl (.inl hrow), h.xnW hkl hrl (.inl hrow)]
  · rw [e, h2.xz hrl hpl, h1.cellW hpl hrl, if_pos ⟨rfl, rfl⟩]
    have h3 := h2.xV (skip := (parP D r : Int)) hrl
    rw [h3.1, h1.xnW hpl hrl (.inr rfl), hX.1]
theorem ArrOk.read {L : List (List Int)} {D m : Nat} {n f : Int} (h : ArrOk L D m) (hp : placeB L n = true) (hf : inB f (-1) ((D : Int) - 1) = true) :
    ∃ k r : Nat, plK D n = k ∧ plR D n = r ∧ k < D ∧ r < m ∧ readV L n f = if (k : Int) = f then xorV L r k else cellV L k r := by
  obtain ⟨k, r, hk, hr, hkl, hrl, _⟩ := place_in hp
  rw [h.head] at hrl
  rw [h.1] at hk hr hkl
  refine ⟨k, r, hk, hr, hkl, hrl, ?_⟩
  rw [read_yes hp (by rw [h.1]; exact hf), h.1, hk, hr]
  rfl
theorem ArrOk.readNow {L : List (List Int)} {D m : Nat} {n : Int} {k r : Nat} (h : ArrOk L D m) (hp : placeB L n = true) (hk : plK D n = k) (hr : plR D n = r) : readV L n (-1) = cellV L k r := by
  obtain ⟨k', r', hk', hr', _, _, e⟩ := h.read (f := -1) hp (inB_iff.2 ⟨by omega, by have := h.2.1; omega⟩)
  rw [e, if_neg (by omega)]
  rw [hk] at hk'
  rw [hr] at hr'
  have : k = k' := by omega
  have : r = r' := by omega
  subst_vars
  rfl
/-- With the row consistent the failed disk does not matter. -/
theorem ArrOk.readRow {L : List (List Int)} {D m : Nat} {n f : Int} (h : ArrOk L D m) (hp : placeB L n = true) (hf : inB f (-1) ((D : Int) - 1) = true)
    (hc : ∀ r : Nat, plR D n = r → xn (cellN L r) (-1) D = 0) : readV L n f = readV L n (-1) := by
  obtain ⟨k, r, hk, hr, hkl, hrl, e⟩ := h.read hp hf
  rw [e, h.readNow hp hk hr]
  split
  · exact ((h.xz hrl hkl).1 (hc r hr)).symm
  · rfl
theorem read_con {L : List (List Int)} {n f : Int} (hc : conB L = true) (hp : placeB L n = true) (hf : inB f (-1) ((L.length : Int) - 1) = true) : readV L n f = readV L n (-1) := by
  have ha : arrB L = true := by simp only [conB, Bool.and_eq_true] at hc; exact hc.1
  have h := ArrOk.of ha
  refine h.readRow hp hf (fun r hr => ?_)
  obtain ⟨k, r', hk, hr', hkl, hrl, _⟩ := h.read hp hf
  have : r = r' := by omega
  subst this
  exact h.con.1 hc r hrl
/-- What is read is a value, or -1. -/
theorem read_range (L : List (List Int)) (n f : Int) : readV L n f = -1 ∨ (placeB L n = true ∧ inB f (-1) ((L.length : Int) - 1) = true ∧ 0 ≤ readV L n f ∧ readV L n f ≤ 255) := by
  cases hp : placeB L n
  · exact .inl (read_no (.inl hp))
  · cases hf : inB f (-1) ((L.length : Int) - 1)
    · exact .inl (read_no (.inr hf))
    · have ha : arrB L = true := by simp only [placeB, Bool.and_eq_true] at hp; exact hp.1
      have h := ArrOk.of ha
      obtain ⟨k, r, hk, hr, hkl, hrl, e⟩ := h.read hp hf
      refine .inr ⟨rfl, rfl, ?_⟩
      rw [e]
      have h1 := h.cell hkl hrl
      have h2 := h.xV (skip := (k : Int)) hrl
      split <;> omega
/-- The place written is read, with any disk failed. -/
theorem ArrOk.wrote {L : List (List Int)} {D m : Nat} {n v f : Int} (h : ArrOk L D m) (hp : placeB L n = true) (hv : inB v 0 255 = true) (hf : inB f (-1) ((D : Int) - 1) = true) : readV (wrtV L n v) n f = v := by
  obtain ⟨k, r, hk, hr, hkl, hrl, hkp, hpl, hw, hcell, _, hz⟩ := h.written hp hv
  have hp2 : placeB (wrtV L n v) n = true := hw.place.2 (h.place.1 hp)
  rw [hw.readRow hp2 hf (fun r' hr' => by
    have : r' = r := by omega
    subst this
    exact hz), hw.readNow hp2 hk hr, hcell k r (fun e => hkp e.1), if_pos ⟨rfl, rfl⟩]
/-- All other places are as before. -/
theorem ArrOk.others {L : List (List Int)} {D m : Nat} {n v j : Int} (h : ArrOk L D m) (hp : placeB L n = true) (hv : inB v 0 255 = true) (hj : placeB L j = true) (hne : j ≠ n) : readV (wrtV L n v) j (-1) = readV L j (-1) := by
  obtain ⟨k, r, hk, hr, hkl, hrl, hkp, hpl, hw, hcell, _, _⟩ := h.written hp hv
  have hj2 : placeB (wrtV L n v) j = true := hw.place.2 (h.place.1 hj)
  obtain ⟨k2, r2, hk2, hr2, hkl2, hrl2, _⟩ := h.read (f := -1) hj (inB_iff.2 ⟨by omega, by have := h.2.1; omega⟩)
  have hD : (2 : Int) ≤ D := by have := h.2.1; omega
  rw [hw.readNow hj2 hk2 hr2, h.readNow hj hk2 hr2, hcell k2 r2, if_neg]
  · rintro ⟨rfl, rfl⟩
    exact hne (pl_inj hD hk2 hr2 hk hr)
  · rintro ⟨e1, rfl⟩
    exact plK_ne hD hk2 hr2 (parP_int h.2.1) e1
theorem ArrOk.conW {L : List (List Int)} {D m : Nat} {n v : Int} (h : ArrOk L D m) (hp : placeB L n = true) (hv : inB v 0 255 = true) (hc : conB L = true) : conB (wrtV L n v) = true := by
  obtain ⟨k, r, hk, hr, hkl, hrl, hkp, hpl, hw, _, hrow, hz⟩ := h.written hp hv
  refine hw.con.2 (fun q hq => ?_)
  by_cases e : q = r
  · rw [e]; exact hz
  · rw [hrow q e]; exact h.con.1 hc q hq
/-- Zeros are consistent. -/
theorem zeros_ok {D m : Nat} (h1 : 2 ≤ D) (h2 : D ≤ 6) (h3 : m ≤ 16) : ArrOk (List.replicate D (List.replicate m 0)) D m := by
  refine ⟨by simp, h1, h2, h3, fun r hr => ?_⟩
  rw [List.eq_of_mem_replicate hr]
  exact ⟨by simp, fun x hx => by rw [List.eq_of_mem_replicate hx]; omega⟩
theorem xn_zeros {f : Nat → Nat} (h : ∀ i, f i = 0) (skip : Int) : ∀ k, xn f skip k = 0
  | 0 => rfl
  | k + 1 => by
    unfold xn
    rw [xn_zeros h skip k, h k]
    split <;> rfl
theorem zeros_con {L : List (List Int)} (h : arrB L = true) : conB (List.replicate L.length (List.replicate (headN L) 0)) = true := by
  obtain ⟨_, a, b, c, _⟩ := ArrOk.of h
  refine (zeros_ok a b c).con.2 (fun r _ => xn_zeros (fun i => ?_) _ _)
  unfold cellN
  have e : (List.replicate L.length (List.replicate (headN L) (0 : Int))).getD i [] = if i < L.length then List.replicate (headN L) 0 else [] := by
    rw [List.getD_eq_getElem?_getD, List.getElem?_replicate]
    split <;> rfl
  rw [e]
  split
  · simp only [List.getD_eq_getElem?_getD, List.getElem?_replicate]
    split <;> rfl
  · rfl
/-- One value changed makes it inconsistent. -/
theorem flip_con {L : List (List Int)} (hc : conB L = true) (hm : 0 < headN L) : conB (wrt1 L 0 0 (255 - cellV L 0 0)) = false := by
  have ha : arrB L = true := by simp only [conB, Bool.and_eq_true] at hc; exact hc.1
  have h := ArrOk.of ha
  have h0 : 0 < L.length := by have := h.2.1; omega
  have hr := h.cell h0 hm
  have h1 := h.set1 (k := 0) (r := 0) (x := 255 - cellV L 0 0) h0 (by omega)
  cases hx : conB (wrt1 L 0 0 (255 - cellV L 0 0))
  · rfl
  · have e1 := (h.xz hm h0).1 (h.con.1 hc 0 hm)
    have e2 := (h1.xz hm h0).1 (h1.con.1 hx 0 hm)
    rw [h.cellW h0 hm, if_pos ⟨rfl, rfl⟩, (h1.xV hm).1, h.xnW h0 hm (.inr rfl), ← (h.xV hm).1, ← e1] at e2
    omega
/-- A whole disk put. -/
theorem ArrOk.put {L : List (List Int)} {D m d : Nat} {q : List Int} (h : ArrOk L D m) (hq : q.length = m) (hx : ∀ x ∈ q, 0 ≤ x ∧ x ≤ 255) : ArrOk (L.set d q) D m := by
  obtain ⟨h1, h2, h3, h4, h5⟩ := h
  refine ⟨by simpa using h1, h2, h3, h4, fun r hr => ?_⟩
  rcases List.mem_or_eq_of_mem_set hr with hr | rfl
  · exact h5 r hr
  · exact ⟨hq, hx⟩
theorem cellV_put {L : List (List Int)} {d i j : Nat} {q : List Int} (hd : d < L.length) : cellV (L.set d q) i j = if i = d then q.getD j 0 else cellV L i j := by
  unfold cellV
  simp only [List.getD_eq_getElem?_getD, List.getElem?_set]
  by_cases h : i = d
  · subst h
    simp [hd]
  · rw [if_neg (fun e => h e.symm), if_neg h]
theorem ArrOk.xnP {L : List (List Int)} {D m d r : Nat} {q : List Int} (h : ArrOk L D m) (hd : d < D) : xn (cellN (L.set d q) r) d D = xn (cellN L r) d D := by
  refine xn_same D (fun i _ hi => ?_)
  rw [cellN_eq, cellN_eq, cellV_put (by rw [h.1]; exact hd), if_neg (fun e => hi (by rw [e]))]
theorem ArrOk.xorP {L : List (List Int)} {D m d : Nat} {q : List Int} (h : ArrOk L D m) (h2 : ArrOk (L.set d q) D m) (hd : d < D) : xorL (L.set d q) d = xorL L d := by
  unfold xorL
  rw [h2.head, h.head]
  refine List.map_congr_left (fun r hr => ?_)
  simp at hr
  rw [(h2.xV hr).1, (h.xV hr).1, h.xnP hd]
theorem ArrOk.xorIn {L : List (List Int)} {D m d : Nat} (h : ArrOk L D m) : (xorL L d).length = m ∧ ∀ x ∈ xorL L d, 0 ≤ x ∧ x ≤ 255 := by
  refine ⟨by rw [xorL_length, h.head], fun x hx => ?_⟩
  unfold xorL at hx
  obtain ⟨r, hr, rfl⟩ := List.mem_map.1 hx
  rw [h.head] at hr
  simp at hr
  have := h.xV (skip := (d : Int)) hr
  omega
theorem ArrOk.reb {L : List (List Int)} {D m d : Nat} (h : ArrOk L D m) : ArrOk (rebL L d) D m := h.put h.xorIn.1 h.xorIn.2
/-- A rebuilt array is consistent. -/
theorem ArrOk.rebCon {L : List (List Int)} {D m d : Nat} (h : ArrOk L D m) (hd : d < D) : conB (rebL L d) = true := by
  refine (h.reb).con.2 (fun r hr => ?_)
  rw [h.reb.xz hr hd, (h.reb.xV hr).1]
  unfold rebL
  rw [cellV_put (by rw [h.1]; exact hd), if_pos rfl, h.xnP hd, ← (h.xV hr).1]
  unfold xorL
  rw [getD_get (by simp [h.head, hr])]
  simp
/-- A lost disk does not matter. -/
theorem ArrOk.rebLost {L : List (List Int)} {D m d : Nat} {q : List Int} (h : ArrOk L D m) (hd : d < D) (hq : q.length = m) (hx : ∀ x ∈ q, 0 ≤ x ∧ x ≤ 255) : rebL (L.set d q) d = rebL L d := by
  unfold rebL
  rw [h.xorP (h.put hq hx) hd, List.set_set]
/-- Rebuilding a disk of a consistent array changes nothing. -/
theorem ArrOk.rebSame {L : List (List Int)} {D m d : Nat} (h : ArrOk L D m) (hd : d < D) (hc : conB L = true) : rebL L d = L := by
  have hdl : d < L.length := by rw [h.1]; exact hd
  have e : xorL L d = L[d] := by
    refine List.ext_getElem (by rw [h.xorIn.1]; exact (h.2.2.2.2 _ (List.getElem_mem hdl)).1.symm) (fun r h1 h2 => ?_)
    have hr : r < m := by rw [h.xorIn.1] at h1; exact h1
    have e1 := (h.xz hr hd).1 (h.con.1 hc r hr)
    have e2 : (xorL L d)[r] = xorV L r d := by simp [xorL]
    rw [e2, ← e1]
    unfold cellV
    rw [getD_row hdl, getD_get h2]
  unfold rebL
  rw [e, List.set_getElem_self]
/-- An array after k values were written to the places from the first one on. -/
def fillV (c : Int) (k : Nat) : Int := (3 * (k : Int) + c) % 256
def fillL (L : List (List Int)) (c : Int) : Nat → List (List Int)
  | 0 => L
  | k + 1 => wrtV (fillL L c k) k (fillV c k)
theorem fillV_in (c : Int) (k : Nat) : inB (fillV c k) 0 255 = true := inB_iff.2 (by unfold fillV; omega)
theorem row_of {D n : Int} {r : Nat} (h2 : 2 ≤ D) (h0 : 0 ≤ n) (h : (r : Int) * (D - 1) = n) : plR D n = r := by
  unfold plR
  rw [← h, Int.mul_ediv_cancel _ (by omega)]
theorem ArrOk.fill {L : List (List Int)} {D m : Nat} (h : ArrOk L D m) (c : Int) : ∀ k : Nat, (k : Int) ≤ (m : Int) * ((D : Int) - 1) →
    ArrOk (fillL L c k) D m ∧ (∀ j : Nat, j < k → readV (fillL L c k) j (-1) = fillV c j) ∧ ∀ r : Nat, r < m → (r : Int) * ((D : Int) - 1) < k → xn (cellN (fillL L c k) r) (-1) D = 0
  | 0, _ => ⟨h, fun j hj => by omega, fun r _ h1 => by
      have : 0 ≤ (r : Int) * ((D : Int) - 1) := Int.mul_nonneg (by omega) (by have := h.2.1; omega)
      omega⟩
  | k + 1, hk => by
    obtain ⟨h1, h2, h3⟩ := ArrOk.fill h c k (by omega)
    have hp : placeB (fillL L c k) k = true := h1.place.2 ⟨by omega, by omega⟩
    obtain ⟨k', r', hk', hr', _, _, _, _, hw, _, hrow, hz⟩ := h1.written hp (fillV_in c k)
    have hD : (2 : Int) ≤ D := by have := h.2.1; omega
    refine ⟨hw, fun j hj => ?_, fun r hr hrk => ?_⟩
    · show readV (wrtV (fillL L c k) k (fillV c k)) j (-1) = fillV c j
      by_cases e : j = k
      · subst e
        exact h1.wrote hp (fillV_in c j) (inB_iff.2 ⟨by omega, by omega⟩)
      · rw [h1.others hp (fillV_in c k) (h1.place.2 ⟨by omega, by omega⟩) (by omega)]
        exact h2 j (by omega)
    · show xn (cellN (wrtV (fillL L c k) k (fillV c k)) r) (-1) D = 0
      by_cases e : r = r'
      · rw [e]; exact hz
      · rw [hrow r e]
        refine h3 r hr ?_
        by_cases e2 : (r : Int) * ((D : Int) - 1) = k
        · have := row_of hD (by omega) e2
          omega
        · omega
theorem ArrOk.filled {L : List (List Int)} {D m : Nat} (h : ArrOk L D m) (c : Int) {n : Nat} (hn : (n : Int) = (m : Int) * ((D : Int) - 1)) :
    ArrOk (fillL L c n) D m ∧ conB (fillL L c n) = true ∧ ∀ j : Nat, j < n → ∀ f : Int, inB f (-1) ((D : Int) - 1) = true → readV (fillL L c n) j f = fillV c j := by
  obtain ⟨h1, h2, h3⟩ := h.fill c n (by omega)
  have hD : (1 : Int) ≤ (D : Int) - 1 := by have := h.2.1; omega
  have hall : ∀ r, r < m → xn (cellN (fillL L c n) r) (-1) D = 0 := fun r hr => h3 r hr (by
    rw [hn]
    exact Int.mul_lt_mul_of_pos_right (by omega) (by omega))
  have hc : conB (fillL L c n) = true := h1.con.2 hall
  refine ⟨h1, hc, fun j hj f hf => ?_⟩
  rw [read_con hc (h1.place.2 ⟨by omega, by omega⟩) (by rw [h1.1]; exact hf)]
  exact h2 j hj
end Go.Proofs.Ytgdbchodlapdpaa
