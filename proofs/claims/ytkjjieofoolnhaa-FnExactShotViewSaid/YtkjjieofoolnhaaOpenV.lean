/- How an argument that is a volume with snapshots is opened. -/
import Derived.Test.YtkjjieofoolnhaaOpenS
import Derived.Test.YtkjjieofoolnhaaVolV
namespace Go.Proofs.Ytkjjieofoolnhaa
open Go.ChangeShapes Go.WideShapes Go.ChangeAt Go.RowKit Go.Deep Go.Joins
set_option linter.unusedVariables false
section
variable {H : Type} {enc : TypeId × Value → H} {w : World} {base : Nat} {spare : Nat → Bool} {held : Bool}
theorem slice_cell {fuel : Nat} {v : Value} {x : DataW H × List MemPlace} {t e : TypeId} (ht : Try.prog.underlying t = some (.slice e)) (h : DataW.trod enc Try.prog w base spare held fuel t [v] = some x) : ∃ A n c, v = .slice A n c := by
  rcases open_slice ht h with ⟨hcs, _⟩ | ⟨a, len', cap', m, n, D, Pl, hcs, _⟩
  · simp at hcs; exact ⟨_, _, _, hcs⟩
  · simp at hcs; exact ⟨_, _, _, hcs⟩
theorem cell_saved {fuel : Nat} {A : Option Addr} {n c : Nat} {x : DataW H × List MemPlace} (h : DataW.trod enc Try.prog w base spare held fuel 76 [.slice A n c] = some x) :
    ∃ l : List Sv, n = l.length ∧ SavedIn w A l ∧ n ≤ c ∧ c ≤ 9223372036854775807 := by
  obtain ⟨_, hm, hm2, hf⟩ := open_fields Try.underlying76 Try.underlying88 (by kernel_rfl) (by kernel_rfl) (by decide) h
  rcases Nat.eq_zero_or_pos n with rfl | hpos
  · exact ⟨[], rfl, SavedIn.nil _ _, by omega, by simpa [maxLen] using hm2⟩
  · obtain ⟨b, off, rfl, hc⟩ := hf hpos
    obtain ⟨l, hll, hq⟩ := list_for (Q := fun i (q : Sv) => w.cell? ⟨b, off + i * 2, none⟩ = some (.int .i64 q.1) ∧ w.cell? ⟨b, off + i * 2 + 1, none⟩ = some (.int .i64 q.2)) n (fun i hi => by
      obtain ⟨m, hj⟩ := hc i hi
      obtain ⟨v0, y0, c0, t0⟩ := hj 0 _ rfl
      obtain ⟨v1, y1, c1, t1⟩ := hj 1 _ rfl
      obtain ⟨z0, e0, _, _⟩ := DataW.trod_int Try.underlying3 t0
      obtain ⟨z1, e1, _, _⟩ := DataW.trod_int Try.underlying3 t1
      simp at e0 e1
      exact ⟨(z0, z1), e0 ▸ c0, e1 ▸ c1⟩)
    exact ⟨l, hll.symm, fun _ => ⟨b, off, rfl, fun i hi => hq i hi⟩, by omega, by simpa [maxLen] using hm2⟩
theorem cell_shots {fuel : Nat} {A : Option Addr} {n c : Nat} {x : DataW H × List MemPlace} (h : DataW.trod enc Try.prog w base spare held fuel 23 [.slice A n c] = some x) :
    ∃ L : List (List Sv), n = L.length ∧ RowsR savC w A L ∧ n ≤ c ∧ c ≤ 9223372036854775807 := by
  obtain ⟨_, hm, hm2, hf⟩ := open_ones Try.underlying23 (by kernel_rfl) h
  rcases Nat.eq_zero_or_pos n with rfl | hpos
  · exact ⟨[], rfl, RowsR.nil _ _, by omega, by simpa [maxLen] using hm2⟩
  · obtain ⟨b, off, rfl, hc⟩ := hf hpos
    obtain ⟨L, hll, hq⟩ := list_for (Q := fun i (q : List Sv) => ∃ Ai ci, w.cell? ⟨b, off + i, none⟩ = some (.slice Ai q.length ci) ∧ ReadC w Ai (savC q) ∧ q.length ≤ ci ∧ ci ≤ 9223372036854775807) n (fun i hi => by
      obtain ⟨m, v, y, h1, h2⟩ := hc i hi
      obtain ⟨Ai, ni, ci, rfl⟩ := slice_cell Try.underlying76 h2
      obtain ⟨l, rfl, h3, h4, h5⟩ := cell_saved h2
      exact ⟨l, Ai, ci, h1, h3.read, h4, h5⟩)
    exact ⟨L, hll.symm, fun _ => ⟨b, off, rfl, fun i hi => hq i hi⟩, by omega, by simpa [maxLen] using hm2⟩
theorem open_volume {r : Reach} {b0 : Nat} {v : Value} {d : DataW H} {p : List MemPlace}
    (hv : Value.okWide Try.prog w r b0 25 v) (h : DataW.Trod enc Try.prog w base spare held 25 v d p) :
    ∃ (N : List Int) (S : List (List Sv)), VolR w v N S := by
  obtain ⟨v0, v1, y0, y1, n, rfl, _, _, h0, h1⟩ := open_agg2 Try.underlying25 (by kernel_rfl) (by kernel_rfl) hv h
  obtain ⟨A, n0, c, rfl⟩ := slice_cell Try.underlying22 h0
  obtain ⟨B, n1, d, rfl⟩ := slice_cell Try.underlying23 h1
  obtain ⟨N, rfl, r0, a0, b0⟩ := cell_ints h0
  obtain ⟨S, rfl, r1, a1, b1⟩ := cell_shots h1
  exact ⟨N, S, A, c, B, d, rfl, IntsIn.of r0, r1, a0, b0, a1, b1⟩
end
end Go.Proofs.Ytkjjieofoolnhaa
