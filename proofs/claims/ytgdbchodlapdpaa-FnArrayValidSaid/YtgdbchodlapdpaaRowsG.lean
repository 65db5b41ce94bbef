/- A row grown within rows of rows. No program in sight. -/
import Derived.Test.YtgdbchodlapdpaaRowsA
namespace Go.Proofs.Ytgdbchodlapdpaa
open Go.RowKit
set_option linter.unusedVariables false

theorem frozen_keep {w w' : World} {p : Addr} {v : Value} (h : w.cell? p = some v) (hf : w.frozen? p = false) (hb : Below w.heap.size w w') : w'.frozen? p = false := by
  have := hb.block _ (block_lt_of_cell h)
  unfold World.frozen? at hf ⊢
  rw [this]
  exact hf
theorem frozen_grow {w w' : World} {p : Addr} {v : Value} {row : Option Nat} (h : w.cell? p = some v) (hf : w.frozen? p = false) (hg : w.grownBy w' row) (hne : some p.block ≠ row) : w'.frozen? p = false := by
  have := hg.block _ (block_lt_of_cell h) hne
  unfold World.frozen? at hf ⊢
  rw [this]
  exact hf
section
variable {α : Type} {C : List α → List Value} {TT T : TypeId} {sz lo hi : Nat} {w w5 w6 : World} {L : List (List α)}
/-- An element appended to row i, in place or in a new block, and its header stored. -/
theorem RowsO.growRow {g0 c i ci c6 : Nat} {Ai A6 : Option Addr} {r : List α} (h : RowsO C TT T sz lo hi w (.slice (some ⟨g0, 0, none⟩) L.length c) L) (hi' : i < L.length)
    (hc : w.cell? ⟨g0, i, none⟩ = some (.slice Ai L[i].length ci)) (hk : ∀ k, lo ≤ k → k < hi → k < w.heap.size → w5.heap[k]? = w.heap[k]?) (hz : w.heap.size ≤ w5.heap.size)
    (o6 : w6.ownsRow lo T sz (.slice A6 r.length c6) r.length (C r)) (g6 : w5.grownBy w6 (Value.slice Ai L[i].length ci).ownBlock)
    (n6 : (Value.slice A6 r.length c6).ownBlock = (Value.slice Ai L[i].length ci).ownBlock ∨ (Value.slice A6 r.length c6).ownBlock = some w5.heap.size) :
    RowsO C TT T sz lo w6.heap.size (w6.setCell ⟨g0, i, none⟩ (.slice A6 r.length c6)) (.slice (some ⟨g0, 0, none⟩) L.length c) (L.set i r) := by
  obtain ⟨A', c', hs, e, h1, h2, ⟨b1, b2, b3⟩, h4⟩ := h
  injection e with e1 e2 e3
  subst e1 e3
  have hrc : ∀ j (hj : j < L.length), hs[j]? = w.cell? ⟨g0, j, none⟩ := fun j hj => (h1.cellAt j (by omega)).symm
  have hii : hs[i]? = some (.slice Ai L[i].length ci) := by rw [hrc i hi']; exact hc
  have hzz := g6.size
  have hg0 : lo ≤ g0 ∧ g0 < w.heap.size := h1.lt g0 rfl
  have hg0h : g0 < hi := h2 g0 rfl
  have hne0 : (Value.slice Ai L[i].length ci).ownBlock ≠ some g0 := h4 _ (List.mem_of_getElem? hii) g0 rfl
  have keepB : ∀ k, lo ≤ k → k < hi → k < w.heap.size → (Value.slice Ai L[i].length ci).ownBlock ≠ some k → w6.heap[k]? = w.heap[k]? := fun k a b c hn => (g6.block k (by omega) (fun e => hn e.symm)).trans (hk k a b c)
  have ho : w6.ownsRow lo TT 1 (.slice (some ⟨g0, 0, none⟩) L.length c) L.length hs := own_block h1 (fun k hk' => keepB k (h1.lt k hk').1 (h2 k hk') (h1.lt k hk').2 (fun e => by
    simp only [Value.ownBlock, Option.some.injEq] at hk'
    subst hk'
    exact hne0 e))
  have hst := (ho.stored i (.slice A6 r.length c6)).1
  have hnewne : ∀ k, (Value.slice A6 r.length c6).ownBlock = some k → k ≠ g0 := fun k hk' e => by
    subst e
    rcases n6 with n6 | n6
    · exact hne0 (n6 ▸ hk')
    · rw [n6] at hk'
      injection hk' with hk'
      omega
  have hold : ∀ j a, j ≠ i → hs[j]? = some a → Apart (.slice A6 r.length c6) a := by
    intro j a hne ha k hk' hka
    have hj : j < L.length := by rw [← b1]; exact (List.getElem?_eq_some_iff.1 ha).1
    rcases n6 with n6 | n6
    · exact b3 i j _ _ (fun e => hne e.symm) hii ha k (n6 ▸ hk') hka
    · rw [n6] at hk'
      injection hk' with hk'
      obtain ⟨Aj, cj, x, y, z⟩ := b2 j hj
      rw [ha] at x
      injection x with x
      subst x
      have := (y.lt k hka).2
      omega
  refine ⟨some ⟨g0, 0, none⟩, c, hs.set i (.slice A6 r.length c6), by simp, by simpa using hst, fun g hg => by
      simp only [Value.ownBlock, Option.some.injEq] at hg
      subst hg
      omega, ⟨by simp [b1], fun j hj => ?_, fun j k a b hne ha hb => ?_⟩, fun a ha => ?_⟩
  · rw [List.length_set] at hj
    by_cases hji : j = i
    · subst hji
      refine ⟨A6, c6, ?_, ?_, ?_⟩
      · rw [List.getElem?_set_self (by omega)]; simp
      · simp only [List.getElem_set_self]
        exact own_far (p := ⟨g0, j, none⟩) o6 hnewne _
      · simp only [List.getElem_set_self]
        exact fun g hg => (o6.lt g hg).2
    · obtain ⟨Aj, cj, x, y, z⟩ := b2 j hj
      rw [List.getElem_set_ne (fun e => hji e.symm)]
      refine ⟨Aj, cj, by rw [List.getElem?_set_ne (fun e => hji e.symm)]; exact x, own_far (p := ⟨g0, i, none⟩) (own_block y (fun g hg => keepB g (y.lt g hg).1 (z g hg) (y.lt g hg).2 (fun e => b3 j i _ _ hji x hii g hg e))) (fun g hg e => ?_) _, fun g hg => by have := (y.lt g hg).2; omega⟩
      subst e
      exact h4 _ (List.mem_of_getElem? x) _ rfl hg
  · by_cases hji : j = i
    · subst hji
      rw [List.getElem?_set_self (by omega)] at ha
      rw [List.getElem?_set_ne hne] at hb
      injection ha with ha
      subst ha
      exact hold k b (fun e => hne e.symm) hb
    · rw [List.getElem?_set_ne (fun e => hji e.symm)] at ha
      by_cases hki : k = i
      · subst hki
        rw [List.getElem?_set_self (by omega)] at hb
        injection hb with hb
        subst hb
        exact (hold j a hji ha).symm
      · rw [List.getElem?_set_ne (fun e => hki e.symm)] at hb
        exact b3 j k a b hne ha hb
  · have hm := List.mem_or_eq_of_mem_set ha
    rw [List.length_set]
    rcases hm with hm | rfl
    · exact h4 a hm
    · intro g hg hr'
      simp only [Value.ownBlock, Option.some.injEq] at hg
      exact hnewne g hr' hg.symm
theorem sumN_set {i : Nat} {r : List α} (h : i < L.length) : sumN (L.set i r) + L[i].length = sumN L + r.length := by
  induction L generalizing i with
  | nil => simp at h
  | cons a t ih =>
    cases i with
    | zero => simp [sumN]; omega
    | succ i =>
      have := ih (i := i) (by simpa using h)
      simp only [List.set_cons_succ, sumN, List.getElem_cons_succ]
      omega
end
end Go.Proofs.Ytgdbchodlapdpaa
