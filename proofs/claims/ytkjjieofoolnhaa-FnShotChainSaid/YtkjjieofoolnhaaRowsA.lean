/- A row appended to a list of lists in memory of the call's own. No program in sight. -/
import Derived.Test.YtkjjieofoolnhaaRowsR
namespace Go.Proofs.Ytkjjieofoolnhaa
open Go.RowKit
set_option linter.unusedVariables false
section
variable {α : Type} {C : List α → List Value} {TT T : TypeId} {sz lo hi lo2 : Nat} {w w' : World} {L : List (List α)} {hs : List Value}
theorem RowsO.app {A A' Ar : Option Addr} {c c' cr : Nat} {r : List α} (ho : w.ownsRow lo TT 1 (.slice A L.length c) L.length hs) (hv : ∀ g, (Value.slice A L.length c).ownBlock = some g → g < hi) (hH : HdrsO C T sz lo hi w hs L) (hap : ∀ a ∈ hs, Apart (.slice A L.length c) a)
    (hr : w.ownsRow lo2 T sz (.slice Ar r.length cr) r.length (C r)) (hlo : hi ≤ lo2) (hlo2 : lo ≤ lo2)
    (ho' : w'.ownsRow lo TT 1 (.slice A' (L.length + 1) c') (L.length + 1) (hs ++ [.slice Ar r.length cr])) (hg : w.grownBy w' (Value.slice A L.length c).ownBlock)
    (hn : (Value.slice A' (L.length + 1) c').ownBlock = (Value.slice A L.length c).ownBlock ∨ (Value.slice A' (L.length + 1) c').ownBlock = some w.heap.size) :
    RowsO C TT T sz lo w'.heap.size w' (.slice A' (L ++ [r]).length c') (L ++ [r]) := by
  obtain ⟨h1, h2, h3⟩ := hH
  have hl1 : (L ++ [r]).length = L.length + 1 := by simp
  have keepH : ∀ i (hi' : i < L.length), ∃ Ai ci, hs[i]? = some (.slice Ai L[i].length ci) ∧ w'.ownsRow lo T sz (.slice Ai L[i].length ci) L[i].length (C L[i]) ∧ w.ownsRow lo T sz (.slice Ai L[i].length ci) L[i].length (C L[i]) ∧ ∀ g, (Value.slice Ai L[i].length ci).ownBlock = some g → g < hi := by
    intro i hi'
    obtain ⟨Ai, ci, a, b, c⟩ := h2 i hi'
    exact ⟨Ai, ci, a, own_block b (fun g hq => hg.block g (b.lt g hq).2 (fun e => hap _ (List.mem_of_getElem? a) g e.symm hq)), b, c⟩
  have keepR : w'.ownsRow lo T sz (.slice Ar r.length cr) r.length (C r) :=
    own_mono (own_block hr (fun g hq => hg.block g (hr.lt g hq).2 (fun e => by have := hv g e.symm; have := (hr.lt g hq).1; omega))) hlo2
  have hidx : ∀ i a, (hs ++ [Value.slice Ar r.length cr])[i]? = some a → (i < L.length ∧ hs[i]? = some a) ∨ (i = L.length ∧ a = .slice Ar r.length cr) := by
    intro i a h
    by_cases hlt : i < hs.length
    · rw [List.getElem?_append_left hlt] at h
      exact .inl ⟨by omega, h⟩
    · rw [List.getElem?_append_right (by omega)] at h
      have h0 : i - hs.length = 0 := by
        rcases Nat.eq_zero_or_pos (i - hs.length) with h0 | h0
        · exact h0
        · rw [List.getElem?_eq_none (by simp; omega)] at h; cases h
      rw [h0] at h
      simp at h
      exact .inr ⟨by omega, h.symm⟩
  have hltw : ∀ a ∈ hs ++ [Value.slice Ar r.length cr], ∀ g, a.ownBlock = some g → g < w.heap.size ∧ (Value.slice A L.length c).ownBlock ≠ some g := by
    intro a ha g hq
    obtain ⟨i, hi2⟩ := List.mem_iff_getElem?.1 ha
    rcases hidx i a hi2 with ⟨hil, hia⟩ | ⟨_, rfl⟩
    · obtain ⟨Ai, ci, x, y, y0, z⟩ := keepH i hil
      rw [hia] at x
      injection x with x
      subst x
      exact ⟨(y0.lt g hq).2, fun e => hap _ (List.mem_of_getElem? hia) g e hq⟩
    · exact ⟨(hr.lt g hq).2, fun e => by have := hv g e; have := (hr.lt g hq).1; omega⟩
  refine ⟨A', c', hs ++ [.slice Ar r.length cr], rfl, by rw [hl1]; exact ho', fun g hq => (ho'.lt g (by rw [hl1] at hq; exact hq)).2, ⟨by simp [h1], fun i hi2 => ?_, fun i j a b hne ha hb => ?_⟩, fun a ha g hq hq2 => ?_⟩
  · rw [hl1] at hi2
    by_cases hlt : i < L.length
    · obtain ⟨Ai, ci, x, y, y0, z⟩ := keepH i hlt
      rw [List.getElem_append_left hlt]
      exact ⟨Ai, ci, by rw [List.getElem?_append_left (by omega)]; exact x, y, fun g hq => (y.lt g hq).2⟩
    · have hie : i = L.length := by omega
      subst hie
      rw [List.getElem_append_right (by omega)]
      simp only [Nat.sub_self, List.getElem_cons_zero]
      exact ⟨Ar, cr, by rw [List.getElem?_append_right (by omega), h1, Nat.sub_self]; rfl, keepR, fun g hq => (keepR.lt g hq).2⟩
  · rcases hidx i a ha with ⟨hil, hia⟩ | ⟨hie, rfl⟩
    · rcases hidx j b hb with ⟨hjl, hjb⟩ | ⟨hje, rfl⟩
      · exact h3 i j a b hne hia hjb
      · intro g hq hq2
        obtain ⟨Ai, ci, x, y, y0, z⟩ := keepH i hil
        rw [hia] at x
        injection x with x
        subst x
        have := z g hq
        have := (hr.lt g hq2).1
        omega
    · rcases hidx j b hb with ⟨hjl, hjb⟩ | ⟨hje, rfl⟩
      · intro g hq hq2
        obtain ⟨Ai, ci, x, y, y0, z⟩ := keepH j hjl
        rw [hjb] at x
        injection x with x
        subst x
        have := z g hq2
        have := (hr.lt g hq).1
        omega
      · omega
  · rw [hl1] at hq
    have h4 := hltw a ha g hq2
    rcases hn with hn | hn
    · exact h4.2 (by rw [← hn]; exact hq)
    · rw [hn] at hq
      injection hq with hq
      omega
end
end Go.Proofs.Ytkjjieofoolnhaa
