/- How an argument that is a late volume is opened. -/
import Derived.Test.YtjkbooflbfnbiaaOpenS
import Derived.Test.YtjkbooflbfnbiaaThinW
namespace Go.Proofs.Ytjkbooflbfnbiaa
open Go.ChangeShapes Go.WideShapes Go.ChangeAt Go.RowKit Go.Deep Go.Joins
section
variable {H : Type} {enc : TypeId × Value → H} {w : World} {base : Nat} {spare : Nat → Bool} {held : Bool}
theorem slice_cell {fuel : Nat} {v : Value} {x : DataW H × List MemPlace} {t e : TypeId} (ht : Try.prog.underlying t = some (.slice e)) (h : DataW.trod enc Try.prog w base spare held fuel t [v] = some x) : ∃ A n c, v = .slice A n c := by
  rcases open_slice ht h with ⟨hcs, _⟩ | ⟨a, len', cap', m, n, D, Pl, hcs, _⟩
  · simp at hcs; exact ⟨_, _, _, hcs⟩
  · simp at hcs; exact ⟨_, _, _, hcs⟩
theorem open_thin {r : Reach} {b0 : Nat} {v : Value} {d : DataW H} {p : List MemPlace}
    (hv : Value.okWide Try.prog w r b0 24 v) (h : DataW.Trod enc Try.prog w base spare held 24 v d p) :
    ∃ W P : List Int, ThinR w v W P := by
  obtain ⟨v0, v1, y0, y1, n, rfl, _, _, h0, h1⟩ := open_agg2 Try.underlying24 (by kernel_rfl) (by kernel_rfl) hv h
  obtain ⟨A, n0, c, rfl⟩ := slice_cell Try.underlying22 h0
  obtain ⟨B, n1, d, rfl⟩ := slice_cell Try.underlying22 h1
  obtain ⟨W, rfl, r0, a0, b0⟩ := cell_ints h0
  obtain ⟨P, rfl, r1, a1, b1⟩ := cell_ints h1
  exact ⟨W, P, A, c, B, d, rfl, IntsIn.of r0, IntsIn.of r1, a0, b0, a1, b1⟩
end
end Go.Proofs.Ytjkbooflbfnbiaa
