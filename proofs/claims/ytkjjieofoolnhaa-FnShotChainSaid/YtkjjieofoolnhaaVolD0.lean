/- DropShot: the plain part. -/
import Derived.Test.YtkjjieofoolnhaaVolE
import Derived.Test.YtkjjieofoolnhaaVolY
namespace Go.Proofs.Ytkjjieofoolnhaa
open Go.RowKit
set_option linter.unusedVariables false

/-- The saved values of r, of whose sectors p has none, behind p. -/
def mergeS : List Sv → List Sv → List Sv
  | p, [] => p
  | p, q :: t => mergeS (if findS p q.1 < 0 then p ++ [q] else p) t
theorem mergeS_len : ∀ (r p : List Sv), (mergeS p r).length ≤ p.length + r.length
  | [], p => by simp [mergeS]
  | q :: t, p => by
    unfold mergeS
    have := mergeS_len t (if findS p q.1 < 0 then p ++ [q] else p)
    split at this <;> simp at this ⊢ <;> (try split) <;> omega
theorem mergeS_step {p r : List Sv} {j : Nat} (h : j < r.length) : mergeS p (r.drop j) = mergeS (if findS p r[j].1 < 0 then p ++ [r[j]] else p) (r.drop (j + 1)) := by
  rw [List.drop_eq_getElem_cons h]
  rfl
def dropB (N : List Int) (S : List (List Sv)) (a : Int) : Bool := volB N S && inB a 0 ((S.length : Int) - 1)
def dropM (S : List (List Sv)) (n : Nat) : List (List Sv) := if 0 < n then S.set (n - 1) (mergeS (S.getD (n - 1) []) (S.getD n [])) else S
def dropN (N : List Int) (S : List (List Sv)) (a : Int) : List Int := if dropB N S a then N else []
def dropS (N : List Int) (S : List (List Sv)) (a : Int) : List (List Sv) := if dropB N S a then (dropM S a.toNat).eraseIdx a.toNat else []
theorem sumN_erase {α : Type} (L : List (List α)) (n : Nat) : sumN (L.eraseIdx n) ≤ sumN L := by
  induction L generalizing n with
  | nil => simp [sumN]
  | cons r t ih =>
    cases n with
    | zero => simp [sumN]
    | succ n => have := ih n; simp only [List.eraseIdx_cons_succ, sumN]; omega
theorem dropM_len (S : List (List Sv)) (n : Nat) : (dropM S n).length = S.length ∧ sumN (dropM S n) ≤ 2 * sumN S := by
  unfold dropM
  split
  · refine ⟨by simp, ?_⟩
    by_cases h : n - 1 < S.length
    · have h1 := sumN_set (r := mergeS (S.getD (n - 1) []) (S.getD n [])) h
      have h2 := mergeS_len (S.getD n []) (S.getD (n - 1) [])
      have e : S.getD (n - 1) [] = S[n - 1] := by rw [List.getD_eq_getElem?_getD, List.getElem?_eq_getElem h]; rfl
      have h3 : (S.getD n []).length ≤ sumN S := by
        by_cases h4 : n < S.length
        · rw [List.getD_eq_getElem?_getD, List.getElem?_eq_getElem h4]; exact sumN_get h4
        · rw [List.getD_eq_getElem?_getD, List.getElem?_eq_none (by omega)]; simp
      rw [e] at h1 h2
      rw [e]
      omega
    · rw [List.set_eq_of_length_le (by omega)]; omega
  · omega
theorem drop_len (N : List Int) (S : List (List Sv)) (a : Int) : (dropN N S a).length ≤ N.length ∧ (dropS N S a).length + sumN (dropS N S a) ≤ S.length + 2 * sumN S := by
  unfold dropN dropS
  split
  · have h1 := dropM_len S a.toNat
    have h2 := sumN_erase (dropM S a.toNat) a.toNat
    have h3 := List.length_eraseIdx_le (dropM S a.toNat) a.toNat
    omega
  · simp [sumN]
theorem drop_no {N : List Int} {S : List (List Sv)} {a : Int} {w w' : World} (hv : dropB N S a = false) (hb : Below w.heap.size w w') : ToVolPost (dropN N S a) (dropS N S a) w (.returned (.agg #[.slice none 0 0, .slice none 0 0])) w' :=
  ⟨.agg #[.slice none 0 0, .slice none 0 0], rfl, by simp only [dropN, dropS, hv]; exact VolO.none w' _ _ hb.size, hb⟩
theorem drop_yes {N : List Int} {S : List (List Sv)} {n : Nat} {w w' : World} {v : Value} (hv : dropB N S n = true) (ho : VolO w.heap.size w'.heap.size w' v N ((dropM S n).eraseIdx n)) (hb : Below w.heap.size w w') : ToVolPost (dropN N S n) (dropS N S n) w (.returned v) w' :=
  ⟨v, rfl, by simp only [dropN, dropS, hv, Int.toNat_natCast]; exact ho, hb⟩
/-- Row i of a volume whose row i has been changed. -/
theorem vol_rowAt {lo hi i : Nat} {w : World} {N : List Int} {S : List (List Sv)} {A B : Option Addr} {c d : Nat} {p : List Sv} (h : VolO lo hi w (.agg #[.slice A N.length c, .slice B S.length d]) N (S.set i p)) (hi' : i < S.length) :
    ∃ g0 mid Ai ci, B = some ⟨g0, 0, none⟩ ∧ lo ≤ g0 ∧ g0 < hi ∧ g0 < w.heap.size ∧ lo ≤ mid ∧ mid ≤ hi ∧ w.cell? ⟨g0, i, none⟩ = some (.slice Ai p.length ci) ∧
      w.ownsRow mid 44 2 (.slice Ai p.length ci) p.length (savC p) ∧ (∀ b, (Value.slice Ai p.length ci).ownBlock = some b → b ≠ g0) ∧ w.frozen? ⟨g0, i, none⟩ = false ∧
      (∀ j (hj : j < S.length), j ≠ i → ∃ Aj cj, w.cell? ⟨g0, j, none⟩ = some (.slice Aj S[j].length cj) ∧ ReadC w Aj (savC S[j]) ∧ S[j].length ≤ cj ∧ (∀ b off, Aj = some ⟨b, off, none⟩ → 0 < S[j].length → (Value.slice Ai p.length ci).ownBlock ≠ some b)) ∧
      ∀ (w5 w6 : World) (r : List Sv) (A6 : Option Addr) (c6 : Nat), (∀ k, lo ≤ k → k < hi → k < w.heap.size → w5.heap[k]? = w.heap[k]?) → w.heap.size ≤ w5.heap.size →
        w6.ownsRow mid 44 2 (.slice A6 r.length c6) r.length (savC r) → w5.grownBy w6 (Value.slice Ai p.length ci).ownBlock →
        ((Value.slice A6 r.length c6).ownBlock = (Value.slice Ai p.length ci).ownBlock ∨ (Value.slice A6 r.length c6).ownBlock = some w5.heap.size) →
        VolO lo w6.heap.size (w6.setCell ⟨g0, i, none⟩ (.slice A6 r.length c6)) (.agg #[.slice A N.length c, .slice B S.length d]) N (S.set i r) := by
  have hl : (S.set i p).length = S.length := by simp
  have h' : VolO lo hi w (.agg #[.slice A N.length c, .slice B (S.set i p).length d]) N (S.set i p) := by rw [hl]; exact h
  have hp : (S.set i p)[i]'(by omega) = p := by simp
  obtain ⟨g0, mid, Ai, ci, e, a1, a2, a3, a4, a5, a6, hc, ho, hne, hrd, hf, hgr⟩ := vol_growRow h' i (by omega)
  obtain ⟨A0, c0, B0, d0, mid2, e0, b1, b2, b3, b4, b5⟩ := h'
  injection e0 with e0
  simp only [Array.mk.injEq, List.cons.injEq, and_true, Value.slice.injEq] at e0
  obtain ⟨⟨rfl, _, rfl⟩, ⟨rfl, _, rfl⟩⟩ := e0
  obtain ⟨p', hp'⟩ : ∃ p', p' = (S.set i p)[i]'(by omega) := ⟨_, rfl⟩
  rw [← hp'] at hc ho hne hgr
  have e2 : p' = p := hp'.trans hp
  subst e2
  refine ⟨g0, mid, Ai, ci, e, a1, a2, a3, a4, a5, hc, ho, hne, hf i, fun j hj hji => ?_, fun w5 w6 r A6 c6 k1 k2 k3 k4 k5 => ?_⟩
  · subst e
    obtain ⟨g1, Aj, cj, e1, _, _, _, hcj, _, hrj, _⟩ := b3.row j (by omega)
    have eg : g1 = g0 := by injection e1 with e1; injection e1 with e1; exact e1.symm
    subst eg
    have hsj : (S.set i p')[j]'(by omega) = S[j] := List.getElem_set_ne (fun e => hji e.symm) _
    rw [hsj] at hcj hrj
    refine ⟨Aj, cj, hcj, own_read hrj, (own_cap hrj).1, fun b off eA h0 hb => ?_⟩
    obtain ⟨_, _, hs, ev, hoo, _, ⟨q1, q2, q3⟩, _⟩ := b3
    injection ev with ev1 _ ev3
    subst ev1 ev3
    have x1 : hs[i]? = some (.slice Ai p'.length ci) := by rw [← hoo.cellAt i (by omega)]; exact hc
    have x2 : hs[j]? = some (.slice Aj S[j].length cj) := by rw [← hoo.cellAt j (by omega)]; exact hcj
    rcases own_cases hrj with ⟨hv, hz⟩ | ⟨g9, cap, hv, _, _⟩
    · omega
    · injection hv with hv
      rw [hv] at eA
      injection eA with eA
      injection eA with eA
      subst eA
      exact q3 i j _ _ (fun e => hji e.symm) x1 x2 g9 hb (by rw [hv]; rfl)
  · have := hgr w5 w6 r A6 c6 k1 k2 k3 k4 k5
    rw [hl, List.set_set] at this
    exact this
/-- A volume's outer row, and what a change of it alone leaves. -/
theorem vol_outer {lo hi : Nat} {w : World} {N : List Int} {S : List (List Sv)} {A B : Option Addr} {c d : Nat} (h : VolO lo hi w (.agg #[.slice A N.length c, .slice B S.length d]) N S) (h0 : 0 < S.length) :
    ∃ g0 mid hs, B = some ⟨g0, 0, none⟩ ∧ lo ≤ mid ∧ mid ≤ g0 ∧ g0 < w.heap.size ∧ g0 < hi ∧ RowsS mid hi w (.slice (some ⟨g0, 0, none⟩) S.length d) S ∧
      w.ownsRow mid 45 1 (.slice (some ⟨g0, 0, none⟩) S.length d) S.length hs ∧ HdrsO savC 44 2 mid hi w hs S ∧ (∀ a ∈ hs, Apart (.slice (some ⟨g0, 0, none⟩) S.length d) a) ∧
      (∀ {g : Nat} {cs : Array Value}, Blk w g 29 cs → g ≠ g0) ∧
      ∀ (w' : World) (v : Value) (Q : List (List Sv)) (hi' : Nat), RowsS mid hi' w' v Q → hi ≤ hi' → (∀ k, k < mid → k < w.heap.size → w'.heap[k]? = w.heap[k]?) → VolO lo hi' w' (.agg #[.slice A N.length c, v]) N Q := by
  obtain ⟨A0, c0, B0, d0, mid, e, h1, h2, h3, h4, h5⟩ := h
  injection e with e
  simp only [Array.mk.injEq, List.cons.injEq, and_true, Value.slice.injEq] at e
  obtain ⟨⟨rfl, _, rfl⟩, ⟨rfl, _, rfl⟩⟩ := e
  have H3 := h3
  obtain ⟨Dx, cx, hs, ev, ho, hv, hH, hap⟩ := h3
  injection ev with ev1 _ ev3
  subst ev1 ev3
  rcases own_cases ho with ⟨_, hz⟩ | ⟨g0, cap, hvv, hb, hg⟩
  · omega
  · injection hvv with hA _ hcap
    subst hA hcap
    refine ⟨g0, mid, hs, rfl, h4, hb, hg, hv g0 rfl, H3, ho, hH, hap, fun hbk e => own_apartT ho hbk (by decide) g0 rfl e.symm, fun w' v Q hi' hr hle hk => ?_⟩
    obtain ⟨B', d', ev, _⟩ := hr.slice
    subst ev
    exact ⟨A, c, B', d', mid, rfl, own_block h1 (fun b hb => hk b (h2 b hb) (h1.lt b hb).2), h2, hr, h4, by omega⟩
end Go.Proofs.Ytkjjieofoolnhaa
