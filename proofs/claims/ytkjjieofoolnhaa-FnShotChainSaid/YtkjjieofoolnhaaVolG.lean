/- A row grown within rows of rows, and a volume changed in one place. No program in sight but its types. -/
import Derived.Test.YtkjjieofoolnhaaVolT
namespace Go.Proofs.Ytkjjieofoolnhaa
open Go.RowKit
set_option linter.unusedVariables false

theorem frozen_keep {w w' : World} {p : Addr} {v : Value} (h : w.cell? p = some v) (hf : w.frozen? p = false) (hb : Below w.heap.size w w') : w'.frozen? p = false := by
  have := hb.block _ (block_lt_of_cell h)
  unfold World.frozen? at hf ⊢
  rw [this]
  exact hf
theorem frozen_grow {w w' : World} {p : Addr} {v : Value} {row : Option Nat} (h : w.cell? p = some v) (hf : w.frozen? p = false) (hg : w.grownBy w' row) (hne : some p.block ≠ row) : w'.frozen? p = false := by
  have := hg.block _ (block_lt_of_cell h) hne
  unfold World.frozen? at hf ⊢
  rw [this]
  exact hf
section
variable {α : Type} {C : List α → List Value} {TT T : TypeId} {sz lo hi : Nat} {w w5 w6 : World} {L : List (List α)}
/-- An element appended to row i, in place or in a new block, and its header stored. -/
theorem RowsO.growRow {g0 c i ci c6 : Nat} {Ai A6 : Option Addr} {r : List α} (h : RowsO C TT T sz lo hi w (.slice (some ⟨g0, 0, none⟩) L.length c) L) (hi' : i < L.length)
    (hc : w.cell? ⟨g0, i, none⟩ = some (.slice Ai L[i].length ci)) (hk : ∀ k, lo ≤ k → k < hi → k < w.heap.size → w5.heap[k]? = w.heap[k]?) (hz : w.heap.size ≤ w5.heap.size)
    (o6 : w6.ownsRow lo T sz (.slice A6 r.length c6) r.length (C r)) (g6 : w5.grownBy w6 (Value.slice Ai L[i].length ci).ownBlock)
    (n6 : (Value.slice A6 r.length c6).ownBlock = (Value.slice Ai L[i].length ci).ownBlock ∨ (Value.slice A6 r.length c6).ownBlock = some w5.heap.size) :
    RowsO C TT T sz lo w6.heap.size (w6.setCell ⟨g0, i, none⟩ (.slice A6 r.length c6)) (.slice (some ⟨g0, 0, none⟩) L.length c) (L.set i r) := by
  obtain ⟨A', c', hs, e, h1, h2, ⟨b1, b2, b3⟩, h4⟩ := h
  injection e with e1 e2 e3
  subst e1 e3
  have hrc : ∀ j (hj : j < L.length), hs[j]? = w.cell? ⟨g0, j, none⟩ := fun j hj => (h1.cellAt j (by omega)).symm
  have hii : hs[i]? = some (.slice Ai L[i].length ci) := by rw [hrc i hi']; exact hc
  have hzz := g6.size
  have hg0 : lo ≤ g0 ∧ g0 < w.heap.size := h1.lt g0 rfl
  have hg0h : g0 < hi := h2 g0 rfl
  have hne0 : (Value.slice Ai L[i].length ci).ownBlock ≠ some g0 := h4 _ (List.mem_of_getElem? hii) g0 rfl
  have keepB : ∀ k, lo ≤ k → k < hi → k < w.heap.size → (Value.slice Ai L[i].length ci).ownBlock ≠ some k → w6.heap[k]? = w.heap[k]? := fun k a b c hn => (g6.block k (by omega) (fun e => hn e.symm)).trans (hk k a b c)
  have ho : w6.ownsRow lo TT 1 (.slice (some ⟨g0, 0, none⟩) L.length c) L.length hs := own_block h1 (fun k hk' => keepB k (h1.lt k hk').1 (h2 k hk') (h1.lt k hk').2 (fun e => by
    simp only [Value.ownBlock, Option.some.injEq] at hk'
    subst hk'
    exact hne0 e))
  have hst := (ho.stored i (.slice A6 r.length c6)).1
  have hnewne : ∀ k, (Value.slice A6 r.length c6).ownBlock = some k → k ≠ g0 := fun k hk' e => by
    subst e
    rcases n6 with n6 | n6
    · exact hne0 (n6 ▸ hk')
    · rw [n6] at hk'
      injection hk' with hk'
      omega
  have hold : ∀ j a, j ≠ i → hs[j]? = some a → Apart (.slice A6 r.length c6) a := by
    intro j a hne ha k hk' hka
    have hj : j < L.length := by rw [← b1]; exact (List.getElem?_eq_some_iff.1 ha).1
    rcases n6 with n6 | n6
    · exact b3 i j _ _ (fun e => hne e.symm) hii ha k (n6 ▸ hk') hka
    · rw [n6] at hk'
      injection hk' with hk'
      obtain ⟨Aj, cj, x, y, z⟩ := b2 j hj
      rw [ha] at x
      injection x with x
      subst x
      have := (y.lt k hka).2
      omega
  refine ⟨some ⟨g0, 0, none⟩, c, hs.set i (.slice A6 r.length c6), by simp, by simpa using hst, fun g hg => by
      simp only [Value.ownBlock, Option.some.injEq] at hg
      subst hg
      omega, ⟨by simp [b1], fun j hj => ?_, fun j k a b hne ha hb => ?_⟩, fun a ha => ?_⟩
  · rw [List.length_set] at hj
    by_cases hji : j = i
    · subst hji
      refine ⟨A6, c6, ?_, ?_, ?_⟩
      · rw [List.getElem?_set_self (by omega)]; simp
      · simp only [List.getElem_set_self]
        exact own_far (p := ⟨g0, j, none⟩) o6 hnewne _
      · simp only [List.getElem_set_self]
        exact fun g hg => (o6.lt g hg).2
    · obtain ⟨Aj, cj, x, y, z⟩ := b2 j hj
      rw [List.getElem_set_ne (fun e => hji e.symm)]
      refine ⟨Aj, cj, by rw [List.getElem?_set_ne (fun e => hji e.symm)]; exact x, own_far (p := ⟨g0, i, none⟩) (own_block y (fun g hg => keepB g (y.lt g hg).1 (z g hg) (y.lt g hg).2 (fun e => b3 j i _ _ hji x hii g hg e))) (fun g hg e => ?_) _, fun g hg => by have := (y.lt g hg).2; omega⟩
      subst e
      exact h4 _ (List.mem_of_getElem? x) _ rfl hg
  · by_cases hji : j = i
    · subst hji
      rw [List.getElem?_set_self (by omega)] at ha
      rw [List.getElem?_set_ne hne] at hb
      injection ha with ha
      subst ha
      exact hold k b (fun e => hne e.symm) hb
    · rw [List.getElem?_set_ne (fun e => hji e.symm)] at ha
      by_cases hki : k = i
      · subst hki
        rw [List.getElem?_set_self (by omega)] at hb
        injection hb with hb
        subst hb
        exact (hold j a hji ha).symm
      · rw [List.getElem?_set_ne (fun e => hki e.symm)] at hb
        exact b3 j k a b hne ha hb
  · have hm := List.mem_or_eq_of_mem_set ha
    rw [List.length_set]
    rcases hm with hm | rfl
    · exact h4 a hm
    · intro g hg hr'
      simp only [Value.ownBlock, Option.some.injEq] at hg
      exact hnewne g hr' hg.symm
theorem sumN_set {i : Nat} {r : List α} (h : i < L.length) : sumN (L.set i r) + L[i].length = sumN L + r.length := by
  induction L generalizing i with
  | nil => simp at h
  | cons a t ih =>
    cases i with
    | zero => simp [sumN]; omega
    | succ i =>
      have := ih (i := i) (by simpa using h)
      simp only [List.set_cons_succ, sumN, List.getElem_cons_succ]
      omega
end
section
variable {lo hi : Nat} {w w5 w6 : World} {N : List Int} {S : List (List Sv)} {A B : Option Addr} {c d : Nat}
/-- Row i of a volume's snapshots, its header, and what is to be shown where it grows. -/
theorem vol_growRow (h : VolO lo hi w (.agg #[.slice A N.length c, .slice B S.length d]) N S) (i : Nat) (hi' : i < S.length) :
    ∃ g0 mid Ai ci, B = some ⟨g0, 0, none⟩ ∧ lo ≤ g0 ∧ g0 < hi ∧ g0 < w.heap.size ∧ lo ≤ mid ∧ mid ≤ hi ∧ (∀ b, (Value.slice A N.length c).ownBlock = some b → b < mid) ∧ w.cell? ⟨g0, i, none⟩ = some (.slice Ai S[i].length ci) ∧
      w.ownsRow mid 44 2 (.slice Ai S[i].length ci) S[i].length (savC S[i]) ∧ (∀ b, (Value.slice Ai S[i].length ci).ownBlock = some b → b ≠ g0) ∧
      (∀ j (hj : j < S.length), ∃ Aj cj, w.cell? ⟨g0, j, none⟩ = some (.slice Aj S[j].length cj) ∧ ReadC w Aj (savC S[j])) ∧
      (∀ j, w.frozen? ⟨g0, j, none⟩ = false) ∧
      ∀ (w5 w6 : World) (r : List Sv) (A6 : Option Addr) (c6 : Nat), (∀ k, lo ≤ k → k < hi → k < w.heap.size → w5.heap[k]? = w.heap[k]?) → w.heap.size ≤ w5.heap.size →
        w6.ownsRow mid 44 2 (.slice A6 r.length c6) r.length (savC r) → w5.grownBy w6 (Value.slice Ai S[i].length ci).ownBlock →
        ((Value.slice A6 r.length c6).ownBlock = (Value.slice Ai S[i].length ci).ownBlock ∨ (Value.slice A6 r.length c6).ownBlock = some w5.heap.size) →
        VolO lo w6.heap.size (w6.setCell ⟨g0, i, none⟩ (.slice A6 r.length c6)) (.agg #[.slice A N.length c, .slice B S.length d]) N (S.set i r) := by
  obtain ⟨A0, c0, B0, d0, mid, e, h1, h2, h3, h4, h5⟩ := h
  injection e with e
  simp only [Array.mk.injEq, List.cons.injEq, and_true, Value.slice.injEq] at e
  obtain ⟨⟨rfl, _, rfl⟩, ⟨rfl, _, rfl⟩⟩ := e
  obtain ⟨g0, Ai, ci, hB, l0, l1, l2, hcell, hfz, hrow, hblk⟩ := h3.row i hi'
  subst hB
  refine ⟨g0, mid, Ai, ci, rfl, by omega, l1, l2, h4, h5, h2, hcell, hrow, fun b hb => (hblk b hb).2, fun j hj => ?_, fun j => ?_, fun w5 w6 r A6 c6 hk hz o6 g6 n6 => ?_⟩
  · obtain ⟨g1, Aj, cj, e1, _, _, _, hcj, _, hrj, _⟩ := h3.row j hj
    have : g1 = g0 := by injection e1 with e1; injection e1 with e1; exact e1.symm
    subst this
    exact ⟨Aj, cj, hcj, own_read hrj⟩
  · obtain ⟨_, _, _, ev, ho, _⟩ := h3
    injection ev with ev1 _ ev3
    subst ev1 ev3
    exact ho.frozenAt j
  · have hz6 := g6.size
    refine ⟨A, c, some ⟨g0, 0, none⟩, d, mid, by simp, ?_, h2, ?_, h4, by omega⟩
    · refine own_far (p := ⟨g0, i, none⟩) (own_block h1 (fun b hb => (g6.block b (by have := (h1.lt b hb).2; omega) (fun e => ?_)).trans (hk b (h1.lt b hb).1 (by have := h2 b hb; omega) (h1.lt b hb).2))) (fun b hb => by have := h2 b hb; show b ≠ g0; omega) _
      have := (hrow.lt b e.symm).1
      have := h2 b hb
      omega
    · have := h3.growRow (w5 := w5) (w6 := w6) (r := r) hi' hcell (fun k a b c => hk k (by omega) b c) hz o6 g6 n6
      rw [List.length_set]
      exact this
/-- A value of a volume stored. -/
theorem vol_setN (h : VolO lo hi w (.agg #[.slice A N.length c, .slice B S.length d]) N S) (k : Nat) (hk : k < N.length) (x : Int) :
    ∃ g, A = some ⟨g, 0, none⟩ ∧ lo ≤ g ∧ g < w.heap.size ∧ w.cell? ⟨g, k, none⟩ = some (.int .i64 N[k]) ∧ w.frozen? ⟨g, k, none⟩ = false ∧ VolO lo hi (w.setCell ⟨g, k, none⟩ (.int .i64 x)) (.agg #[.slice A N.length c, .slice B S.length d]) (N.set k x) S := by
  obtain ⟨A0, c0, B0, d0, mid, e, h1, h2, h3, h4, h5⟩ := h
  injection e with e
  simp only [Array.mk.injEq, List.cons.injEq, and_true, Value.slice.injEq] at e
  obtain ⟨⟨rfl, _, rfl⟩, ⟨rfl, _, rfl⟩⟩ := e
  rcases own_cases h1 with ⟨_, h0⟩ | ⟨g, cap, hv, hb, hg⟩
  · omega
  · injection hv with hA _ hcap
    subst hA hcap
    refine ⟨g, rfl, hb, hg, ?_, h1.frozenAt k, some ⟨g, 0, none⟩, c, B, d, mid, by simp, ?_, by simpa using h2, h3.far (p := ⟨g, k, none⟩) (.inl (h2 g rfl)) _, h4, h5⟩
    · rw [h1.cellAt k (by simpa using hk), List.getElem?_map, List.getElem?_eq_getElem hk]; rfl
    · have := (h1.stored k (.int .i64 x)).1
      rw [List.length_set, List.map_set]
      exact this
end
end Go.Proofs.Ytkjjieofoolnhaa
