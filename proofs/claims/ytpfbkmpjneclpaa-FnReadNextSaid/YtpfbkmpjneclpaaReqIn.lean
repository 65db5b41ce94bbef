/- Requests: how a list of them reads, and how an argument that is a list of requests is opened. -/
import Derived.Test.YtpfbkmpjneclpaaOpenS
namespace Go.Proofs.Ytpfbkmpjneclpaa
open Go.ChangeShapes Go.WideShapes Go.ChangeAt Go.RowKit Go.Deep
set_option linter.unusedVariables false

/-- A request: its first sector, the number of its sectors, whether it writes. -/
abbrev Rq := Int × Int × Bool
/-- The slice's address A leads to the requests l. -/
def ReqsIn (w : World) (A : Option Addr) (l : List Rq) : Prop :=
  0 < l.length → ∃ b off, A = some ⟨b, off, none⟩ ∧ ∀ i (h : i < l.length), w.cell? ⟨b, off + i * 3, none⟩ = some (.int .i64 l[i].1) ∧ w.cell? ⟨b, off + i * 3 + 1, none⟩ = some (.int .i64 l[i].2.1) ∧ w.cell? ⟨b, off + i * 3 + 2, none⟩ = some (.bool l[i].2.2)
theorem ReqsIn.nil (w : World) (A : Option Addr) : ReqsIn w A [] := fun h => absurd h (by simp)
theorem ReqsIn.keep {w w' : World} {A : Option Addr} {l : List Rq} (h : ReqsIn w A l) (hk : ∀ k, k < w.heap.size → w'.heap[k]? = w.heap[k]?) : ReqsIn w' A l := by
  intro h0
  obtain ⟨b, off, e, hc⟩ := h h0
  refine ⟨b, off, e, fun i hi => ?_⟩
  obtain ⟨c1, c2, c3⟩ := hc i hi
  exact ⟨(World.cell?_of_block (hk b (block_lt_of_cell c1))).trans c1, (World.cell?_of_block (hk b (block_lt_of_cell c2))).trans c2, (World.cell?_of_block (hk b (block_lt_of_cell c3))).trans c3⟩
theorem ReqsIn.below {w w' : World} {A : Option Addr} {l : List Rq} (h : ReqsIn w A l) (hb : Below w.heap.size w w') : ReqsIn w' A l := h.keep hb.block
theorem ReqsIn.drewN {w : World} {A : Option Addr} {l : List Rq} (h : ReqsIn w A l) (n : Nat) : ReqsIn (w.drewN n) A l := h

/-- The cells of requests. -/
def reqC (l : List Rq) : List Value := l.flatMap fun q => [.int .i64 q.1, .int .i64 q.2.1, .bool q.2.2]
theorem reqC_length (l : List Rq) : (reqC l).length = 3 * l.length := by
  induction l with
  | nil => rfl
  | cons p r ih => simp only [reqC, List.flatMap_cons, List.length_append, List.length_cons, List.length_nil] at ih ⊢; omega
theorem reqC_get (l : List Rq) (i : Nat) (h : i < l.length) : (reqC l)[i * 3]? = some (.int .i64 l[i].1) ∧ (reqC l)[i * 3 + 1]? = some (.int .i64 l[i].2.1) ∧ (reqC l)[i * 3 + 2]? = some (.bool l[i].2.2) := by
  induction l generalizing i with
  | nil => simp at h
  | cons p r ih =>
    cases i with
    | zero => exact ⟨rfl, rfl, rfl⟩
    | succ i =>
      obtain ⟨a, b, c⟩ := ih i (by simpa using h)
      have e : reqC (p :: r) = .int .i64 p.1 :: .int .i64 p.2.1 :: .bool p.2.2 :: reqC r := rfl
      rw [e, show (i + 1) * 3 = i * 3 + 1 + 1 + 1 by omega]
      exact ⟨a, b, c⟩
theorem ReqsIn.of {w : World} {A : Option Addr} {l : List Rq} (h : ReadC w A (reqC l)) : ReqsIn w A l := by
  intro h0
  obtain ⟨b, off, e, hc⟩ := h (by rw [reqC_length]; omega)
  refine ⟨b, off, e, fun i hi => ?_⟩
  have hl := reqC_length l
  obtain ⟨g1, g2, g3⟩ := reqC_get l i hi
  have c1 := hc (i * 3) (by omega)
  have c2 := hc (i * 3 + 1) (by omega)
  have c3 := hc (i * 3 + 2) (by omega)
  rw [List.getElem?_eq_getElem (by omega)] at g1 g2 g3
  injection g1 with g1
  injection g2 with g2
  injection g3 with g3
  rw [g1] at c1
  rw [g2] at c2
  rw [g3] at c3
  exact ⟨c1, by rw [Nat.add_assoc]; exact c2, by rw [Nat.add_assoc]; exact c3⟩

section
variable {H : Type} {enc : TypeId × Value → H} {w : World} {base : Nat} {spare : Nat → Bool} {held : Bool}
theorem open_requests {r : Reach} {b0 : Nat} {v : Value} {d : DataW H} {p : List MemPlace}
    (hv : Value.okWide Try.prog w r b0 49 v) (h : DataW.Trod enc Try.prog w base spare held 49 v d p) :
    ∃ a n c l, v = .slice a n c ∧ (n = l.length ∧ ReqsIn w a l ∧ n ≤ 9223372036854775807) := by
  obtain ⟨A, n, c, rfl⟩ := okWide_slice Try.underlying49 hv
  obtain ⟨fuel, hf⟩ := h
  obtain ⟨hm, _, _, hf⟩ := open_fields Try.underlying49 Try.underlying79 (by kernel_rfl) (by kernel_rfl) (by decide) (by simpa [Value.cells] using hf)
  rcases Nat.eq_zero_or_pos n with rfl | hpos
  · exact ⟨_, _, _, [], rfl, rfl, ReqsIn.nil _ _, by omega⟩
  · obtain ⟨b, off, rfl, hc⟩ := hf hpos
    obtain ⟨l, hll, hq⟩ := list_for (Q := fun i (q : Rq) => w.cell? ⟨b, off + i * 3, none⟩ = some (.int .i64 q.1) ∧ w.cell? ⟨b, off + i * 3 + 1, none⟩ = some (.int .i64 q.2.1) ∧ w.cell? ⟨b, off + i * 3 + 2, none⟩ = some (.bool q.2.2)) n (fun i hi => by
      obtain ⟨m, hj⟩ := hc i hi
      obtain ⟨v0, y0, c0, t0⟩ := hj 0 _ rfl
      obtain ⟨v1, y1, c1, t1⟩ := hj 1 _ rfl
      obtain ⟨v2, y2, c2, t2⟩ := hj 2 _ rfl
      obtain ⟨z0, e0, _, _⟩ := DataW.trod_int Try.underlying3 t0
      obtain ⟨z1, e1, _, _⟩ := DataW.trod_int Try.underlying3 t1
      obtain ⟨z2, e2, _⟩ := DataW.trod_bool Try.underlying4 t2
      simp at e0 e1 e2
      exact ⟨(z0, z1, z2), e0 ▸ c0, e1 ▸ c1, e2 ▸ c2⟩)
    exact ⟨_, _, _, l, rfl, hll.symm, fun _ => ⟨b, off, rfl, fun i hi => hq i hi⟩, by simpa [maxLen] using hm⟩
end
end Go.Proofs.Ytpfbkmpjneclpaa
