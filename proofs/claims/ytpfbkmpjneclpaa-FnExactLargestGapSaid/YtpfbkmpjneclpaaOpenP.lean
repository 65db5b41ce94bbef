/- How an argument that is a list of partitions is opened. -/
import Derived.Test.YtpfbkmpjneclpaaOpen
import Derived.Test.YtpfbkmpjneclpaaParts
import Derived.Deep.SlicePairs
namespace Go.Proofs.Ytpfbkmpjneclpaa
open Go.ChangeShapes Go.WideShapes Go.ChangeAt Go.RowKit Go.Deep
set_option linter.unusedVariables false

theorem list_of {α : Type} {Q : Nat → α → Prop} (n : Nat) (h : ∀ i, i < n → ∃ p, Q i p) : ∃ l : List α, l.length = n ∧ ∀ i (hi : i < l.length), Q i l[i] := by
  induction n with
  | zero => exact ⟨[], rfl, fun i hi => absurd hi (by simp)⟩
  | succ n ih =>
    obtain ⟨l, hl, hq⟩ := ih (fun i hi => h i (by omega))
    obtain ⟨p, hp⟩ := h n (by omega)
    refine ⟨l ++ [p], by simp [hl], fun i hi => ?_⟩
    by_cases hlt : i < l.length
    · rw [List.getElem_append_left hlt]; exact hq i hlt
    · have : i = n := by simp at hi; omega
      subst this
      rw [List.getElem_append_right (by omega)]
      simpa [hl] using hp

section
variable {H : Type} {enc : TypeId × Value → H} {w : World} {base : Nat} {spare : Nat → Bool} {held : Bool}
theorem open_parts {r : Reach} {b0 : Nat} {v : Value} {d : DataW H} {p : List MemPlace}
    (hv : Value.okWide Try.prog w r b0 22 v) (h : DataW.Trod enc Try.prog w base spare held 22 v d p) :
    ∃ a n c l, v = .slice a n c ∧ (n = l.length ∧ PartsIn w a l ∧ n ≤ 9223372036854775807) := by
  obtain ⟨a0, len0, cap0, rfl⟩ := okWide_slice Try.underlying22 hv
  obtain ⟨fuel, hf⟩ := h
  rcases open_slice_pairs Try.underlying22 Try.underlying65 (by kernel_rfl) rfl rfl (by kernel_rfl) (by kernel_rfl) hf with ⟨hcs, _⟩ | ⟨a, len, cap, m, n, V0, V1, D0, D1, P0, P1, hcs, _, hl, hm, hmm, _, hx⟩
  · simp [Value.cells] at hcs
    obtain ⟨rfl, rfl, rfl⟩ := hcs
    exact ⟨none, 0, 0, [], rfl, rfl, PartsIn.nil _ _, by omega⟩
  · simp [Value.cells] at hcs
    obtain ⟨rfl, rfl, rfl⟩ := hcs
    have hlm : len0 ≤ m := by rw [hmm]; split <;> omega
    obtain ⟨b, off, spot⟩ := a
    rcases Nat.eq_zero_or_pos len0 with rfl | hpos
    · exact ⟨_, 0, cap0, [], rfl, rfl, PartsIn.nil _ _, by omega⟩
    · have hspot : spot = none := by
        have := (hx 0 (by omega)).1
        simpa [Addr.add] using World.cell?_spot this
      subst hspot
      obtain ⟨l, hll, hq⟩ := list_of (Q := fun i (q : Int × Int) => w.cell? ⟨b, off + i * 2, none⟩ = some (.int .i64 q.1) ∧ w.cell? ⟨b, off + i * 2 + 1, none⟩ = some (.int .i64 q.2)) len0 (fun i hi => by
        obtain ⟨c0, c1, t0, t1⟩ := hx i (by omega)
        obtain ⟨x0, e0, _, _⟩ := DataW.trod_int Try.underlying3 t0
        obtain ⟨x1, e1, _, _⟩ := DataW.trod_int Try.underlying3 t1
        simp at e0 e1
        rw [e0] at c0
        rw [e1] at c1
        refine ⟨(x0, x1), ?_, ?_⟩
        · rw [← c0]; unfold Addr.add; split <;> simp_all
        · rw [← c1]; unfold Addr.add; split <;> simp_all [Nat.add_assoc])
      exact ⟨_, len0, cap0, l, rfl, hll.symm, fun _ => ⟨b, off, rfl, fun i hi => hq i hi⟩, by simp [maxLen] at hm; omega⟩
end
end Go.Proofs.Ytpfbkmpjneclpaa
