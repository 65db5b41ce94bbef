/- Records: how a list of them reads, and how an argument that is a list of records is opened. -/
import Derived.Test.YthghngphamimgaaOpenS
namespace Go.Proofs.Ythghngphamimgaa
open Go.ChangeShapes Go.WideShapes Go.ChangeAt Go.RowKit Go.Deep
set_option linter.unusedVariables false

/-- A record: its number, whether it commits, its sector, its value. -/
abbrev Rc := Int × Bool × Int × Int
/-- The slice's address A leads to the records l. -/
def RecsIn (w : World) (A : Option Addr) (l : List Rc) : Prop :=
  0 < l.length → ∃ b off, A = some ⟨b, off, none⟩ ∧ ∀ i (h : i < l.length), w.cell? ⟨b, off + i * 4, none⟩ = some (.int .i64 l[i].1) ∧ w.cell? ⟨b, off + i * 4 + 1, none⟩ = some (.bool l[i].2.1) ∧ w.cell? ⟨b, off + i * 4 + 2, none⟩ = some (.int .i64 l[i].2.2.1) ∧ w.cell? ⟨b, off + i * 4 + 3, none⟩ = some (.int .i64 l[i].2.2.2)
theorem RecsIn.nil (w : World) (A : Option Addr) : RecsIn w A [] := fun h => absurd h (by simp)
theorem RecsIn.keep {w w' : World} {A : Option Addr} {l : List Rc} (h : RecsIn w A l) (hk : ∀ k, k < w.heap.size → w'.heap[k]? = w.heap[k]?) : RecsIn w' A l := by
  intro h0
  obtain ⟨b, off, e, hc⟩ := h h0
  refine ⟨b, off, e, fun i hi => ?_⟩
  obtain ⟨c1, c2, c3, c4⟩ := hc i hi
  have hk' := hk b (block_lt_of_cell c1)
  exact ⟨(World.cell?_of_block hk').trans c1, (World.cell?_of_block hk').trans c2, (World.cell?_of_block hk').trans c3, (World.cell?_of_block hk').trans c4⟩
theorem RecsIn.below {w w' : World} {A : Option Addr} {l : List Rc} (h : RecsIn w A l) (hb : Below w.heap.size w w') : RecsIn w' A l := h.keep hb.block
theorem RecsIn.drewN {w : World} {A : Option Addr} {l : List Rc} (h : RecsIn w A l) (n : Nat) : RecsIn (w.drewN n) A l := h

theorem RecsIn.take {w : World} {A : Option Addr} {l : List Rc} (h : RecsIn w A l) (k : Nat) : RecsIn w A (l.take k) := by
  intro h0
  obtain ⟨b, off, e, hc⟩ := h (by rw [List.length_take] at h0; omega)
  exact ⟨b, off, e, fun i hi => by rw [List.getElem_take]; exact hc i (by rw [List.length_take] at hi; omega)⟩

/-- The cells of records. -/
def recV (q : Rc) : List Value := [.int .i64 q.1, .bool q.2.1, .int .i64 q.2.2.1, .int .i64 q.2.2.2]
def recC (l : List Rc) : List Value := l.flatMap fun q => [.int .i64 q.1, .bool q.2.1, .int .i64 q.2.2.1, .int .i64 q.2.2.2]
theorem recC_length (l : List Rc) : (recC l).length = 4 * l.length := by
  induction l with
  | nil => rfl
  | cons p r ih => simp only [recC, List.flatMap_cons, List.length_append, List.length_cons, List.length_nil] at ih ⊢; omega
theorem recC_append (l m : List Rc) : recC (l ++ m) = recC l ++ recC m := by simp [recC]
theorem recC_one (l : List Rc) : ∀ u ∈ recC l, u.oneCell' = true := by
  intro u hu
  simp only [recC, List.mem_flatMap] at hu
  obtain ⟨q, _, hq⟩ := hu
  simp only [List.mem_cons, List.not_mem_nil, or_false] at hq
  rcases hq with rfl | rfl | rfl | rfl <;> rfl
theorem recC_get (l : List Rc) (i : Nat) (h : i < l.length) : (recC l)[i * 4]? = some (.int .i64 l[i].1) ∧ (recC l)[i * 4 + 1]? = some (.bool l[i].2.1) ∧ (recC l)[i * 4 + 2]? = some (.int .i64 l[i].2.2.1) ∧ (recC l)[i * 4 + 3]? = some (.int .i64 l[i].2.2.2) := by
  induction l generalizing i with
  | nil => simp at h
  | cons p r ih =>
    cases i with
    | zero => exact ⟨rfl, rfl, rfl, rfl⟩
    | succ i =>
      obtain ⟨a, b, c, d⟩ := ih i (by simpa using h)
      have e : recC (p :: r) = .int .i64 p.1 :: .bool p.2.1 :: .int .i64 p.2.2.1 :: .int .i64 p.2.2.2 :: recC r := rfl
      rw [e, show (i + 1) * 4 = i * 4 + 1 + 1 + 1 + 1 by omega]
      exact ⟨a, b, c, d⟩
theorem RecsIn.of {w : World} {A : Option Addr} {l : List Rc} (h : ReadC w A (recC l)) : RecsIn w A l := by
  intro h0
  obtain ⟨b, off, e, hc⟩ := h (by rw [recC_length]; omega)
  refine ⟨b, off, e, fun i hi => ?_⟩
  have hl := recC_length l
  obtain ⟨g1, g2, g3, g4⟩ := recC_get l i hi
  have c1 := hc (i * 4) (by omega)
  have c2 := hc (i * 4 + 1) (by omega)
  have c3 := hc (i * 4 + 2) (by omega)
  have c4 := hc (i * 4 + 3) (by omega)
  rw [List.getElem?_eq_getElem (by omega)] at g1 g2 g3 g4
  injection g1 with g1
  injection g2 with g2
  injection g3 with g3
  injection g4 with g4
  rw [g1] at c1
  rw [g2] at c2
  rw [g3] at c3
  rw [g4] at c4
  exact ⟨c1, by rw [Nat.add_assoc]; exact c2, by rw [Nat.add_assoc]; exact c3, by rw [Nat.add_assoc]; exact c4⟩

section
variable {H : Type} {enc : TypeId × Value → H} {w : World} {base : Nat} {spare : Nat → Bool} {held : Bool}
theorem open_records {r : Reach} {b0 : Nat} {v : Value} {d : DataW H} {p : List MemPlace}
    (hv : Value.okWide Try.prog w r b0 22 v) (h : DataW.Trod enc Try.prog w base spare held 22 v d p) :
    ∃ a n c l, v = .slice a n c ∧ (n = l.length ∧ RecsIn w a l ∧ n ≤ c ∧ c ≤ 9223372036854775807) := by
  obtain ⟨A, n, c, rfl⟩ := okWide_slice Try.underlying22 hv
  obtain ⟨fuel, hf⟩ := h
  obtain ⟨_, hm, hm2, hf⟩ := open_fields Try.underlying22 Try.underlying56 (by kernel_rfl) (by kernel_rfl) (by decide) (by simpa [Value.cells] using hf)
  rcases Nat.eq_zero_or_pos n with rfl | hpos
  · exact ⟨_, _, _, [], rfl, rfl, RecsIn.nil _ _, by omega, by simpa [maxLen] using hm2⟩
  · obtain ⟨b, off, rfl, hc⟩ := hf hpos
    obtain ⟨l, hll, hq⟩ := list_for (Q := fun i (q : Rc) => w.cell? ⟨b, off + i * 4, none⟩ = some (.int .i64 q.1) ∧ w.cell? ⟨b, off + i * 4 + 1, none⟩ = some (.bool q.2.1) ∧ w.cell? ⟨b, off + i * 4 + 2, none⟩ = some (.int .i64 q.2.2.1) ∧ w.cell? ⟨b, off + i * 4 + 3, none⟩ = some (.int .i64 q.2.2.2)) n (fun i hi => by
      obtain ⟨m, hj⟩ := hc i hi
      obtain ⟨v0, y0, c0, t0⟩ := hj 0 _ rfl
      obtain ⟨v1, y1, c1, t1⟩ := hj 1 _ rfl
      obtain ⟨v2, y2, c2, t2⟩ := hj 2 _ rfl
      obtain ⟨v3, y3, c3, t3⟩ := hj 3 _ rfl
      obtain ⟨z0, e0, _, _⟩ := DataW.trod_int Try.underlying3 t0
      obtain ⟨z1, e1, _⟩ := DataW.trod_bool Try.underlying4 t1
      obtain ⟨z2, e2, _, _⟩ := DataW.trod_int Try.underlying3 t2
      obtain ⟨z3, e3, _, _⟩ := DataW.trod_int Try.underlying3 t3
      simp at e0 e1 e2 e3
      exact ⟨(z0, z1, z2, z3), e0 ▸ c0, e1 ▸ c1, e2 ▸ c2, e3 ▸ c3⟩)
    exact ⟨_, _, _, l, rfl, hll.symm, fun _ => ⟨b, off, rfl, fun i hi => hq i hi⟩, by omega, by simpa [maxLen] using hm2⟩
end
end Go.Proofs.Ythghngphamimgaa
