/- How an argument that is a list of lists of integers is opened. -/
import Derived.Test.YtgdbchodlapdpaaOpenS
import Derived.Test.YtgdbchodlapdpaaRowsR
namespace Go.Proofs.Ytgdbchodlapdpaa
open Go.ChangeShapes Go.WideShapes Go.ChangeAt Go.RowKit Go.Deep
set_option linter.unusedVariables false
/-- The cells of a row of integers. -/
abbrev CI : List Int → List Value := fun l => l.map (Value.int .i64)
section
variable {H : Type} {enc : TypeId × Value → H} {w : World} {base : Nat} {spare : Nat → Bool} {held : Bool}
theorem slice_cell' {fuel : Nat} {v : Value} {x : DataW H × List MemPlace} {t e : TypeId} (ht : Try.prog.underlying t = some (.slice e)) (h : DataW.trod enc Try.prog w base spare held fuel t [v] = some x) : ∃ A n c, v = .slice A n c := by
  rcases open_slice ht h with ⟨hcs, _⟩ | ⟨a, len', cap', m, n, D, Pl, hcs, _⟩
  · simp at hcs; exact ⟨_, _, _, hcs⟩
  · simp at hcs; exact ⟨_, _, _, hcs⟩
theorem open_rows {r : Reach} {b0 : Nat} {v : Value} {d : DataW H} {p : List MemPlace}
    (hv : Value.okWide Try.prog w r b0 22 v) (h : DataW.Trod enc Try.prog w base spare held 22 v d p) :
    ∃ a n c, ∃ L : List (List Int), v = .slice a n c ∧ (n = L.length ∧ RowsR CI w a L ∧ n ≤ c ∧ c ≤ 9223372036854775807) := by
  obtain ⟨A, n, c, rfl⟩ := okWide_slice Try.underlying22 hv
  obtain ⟨fuel, hf⟩ := h
  obtain ⟨_, hm, hm2, hf⟩ := open_ones Try.underlying22 (by kernel_rfl) (by simpa [Value.cells] using hf)
  rcases Nat.eq_zero_or_pos n with rfl | hpos
  · exact ⟨_, _, _, [], rfl, rfl, RowsR.nil _ _, by omega, by simpa [maxLen] using hm2⟩
  · obtain ⟨b, off, rfl, hc⟩ := hf hpos
    obtain ⟨L, hll, hq⟩ := list_for (Q := fun i (q : List Int) => ∃ Ai ci, w.cell? ⟨b, off + i, none⟩ = some (.slice Ai q.length ci) ∧ ReadC w Ai (CI q) ∧ q.length ≤ ci ∧ ci ≤ 9223372036854775807) n (fun i hi => by
      obtain ⟨m, v, y, h1, h2⟩ := hc i hi
      obtain ⟨Ai, ni, ci, rfl⟩ := slice_cell' Try.underlying30 h2
      obtain ⟨l, rfl, h3, h4, h5⟩ := cell_ints h2
      exact ⟨l, Ai, ci, h1, h3, h4, h5⟩)
    exact ⟨_, _, _, L, rfl, hll.symm, fun _ => ⟨b, off, rfl, fun i hi => hq i hi⟩, by omega, by simpa [maxLen] using hm2⟩
end
end Go.Proofs.Ytgdbchodlapdpaa
