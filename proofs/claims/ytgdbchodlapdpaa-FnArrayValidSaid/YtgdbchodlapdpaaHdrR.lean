/- Slices of slices whose rows anyone may have laid. -/
import Derived.Test.YtgdbchodlapdpaaArrS
import Derived.Test.YtgdbchodlapdpaaDrAr
import Derived.Test.YtgdbchodlapdpaaAppH
namespace Go.Proofs.Ytgdbchodlapdpaa
open Go.RowKit
set_option linter.unusedVariables false

/-- The headers hs, in a slice in block ob, lead to the rows L, which anyone may have laid, but not in ob. -/
def HdrsR (ob : Option Nat) (w : World) (hs : List Value) (L : List (List Int)) : Prop :=
  hs.length = L.length ∧ ∀ i (h : i < L.length), ∃ Ai ci, hs[i]? = some (.slice Ai L[i].length ci) ∧ ReadC w Ai (CI L[i]) ∧ (0 < L[i].length → ∀ b off, Ai = some ⟨b, off, none⟩ → ob ≠ some b) ∧ L[i].length ≤ ci ∧ ci ≤ 9223372036854775807
theorem HdrsR.nil (ob : Option Nat) (w : World) : HdrsR ob w [] [] := ⟨rfl, fun i h => absurd h (by simp)⟩
theorem HdrsR.keep {ob : Option Nat} {w w' : World} {hs : List Value} {L : List (List Int)} (h : HdrsR ob w hs L) (hb : Below w.heap.size w w') : HdrsR ob w' hs L :=
  ⟨h.1, fun i hi => by obtain ⟨Ai, ci, a, b, c⟩ := h.2 i hi; exact ⟨Ai, ci, a, b.keep hb.block, c⟩⟩
theorem read_blk {w : World} {b off : Nat} {r : List Int} (h : ReadC w (some ⟨b, off, none⟩) (CI r)) (h0 : 0 < r.length) : b < w.heap.size := by
  obtain ⟨b', off', e, hc⟩ := h (by simpa using h0)
  injection e with e
  injection e with e1 e2
  subst e1 e2
  exact block_lt_of_cell (hc 0 (by simpa using h0))
theorem read_grow {ob : Option Nat} {w w' : World} {A : Option Addr} {r : List Int} (h : ReadC w A (CI r)) (ha : 0 < r.length → ∀ b off, A = some ⟨b, off, none⟩ → ob ≠ some b) (hg : w.grownBy w' ob) : ReadC w' A (CI r) := by
  intro h0
  have h0' : 0 < r.length := by simpa using h0
  obtain ⟨b, off, e, hc⟩ := h h0
  refine ⟨b, off, e, fun i hi => ?_⟩
  exact hg.cell (hc i hi) (fun e2 => ha h0' b off e e2.symm)
theorem HdrsR.grow {ob ob' : Option Nat} {w w' : World} {hs : List Value} {L : List (List Int)} {r : List Int} {Ar : Option Addr} {cr : Nat} (h : HdrsR ob w hs L) (hg : w.grownBy w' ob) (hn : ob' = ob ∨ ob' = some w.heap.size)
    (hr : ReadC w Ar (CI r)) (ha : 0 < r.length → ∀ b off, Ar = some ⟨b, off, none⟩ → ob ≠ some b) (h1 : r.length ≤ cr) (h2 : cr ≤ 9223372036854775807) : HdrsR ob' w' (hs ++ [.slice Ar r.length cr]) (L ++ [r]) := by
  obtain ⟨hl, hc⟩ := h
  have hap : ∀ (q : List Int) (A : Option Addr), ReadC w A (CI q) → (0 < q.length → ∀ b off, A = some ⟨b, off, none⟩ → ob ≠ some b) → (0 < q.length → ∀ b off, A = some ⟨b, off, none⟩ → ob' ≠ some b) := by
    intro q A hq hqa h0 b off e
    subst e
    rcases hn with hn | hn
    · rw [hn]; exact hqa h0 b off rfl
    · rw [hn]
      have := read_blk hq h0
      intro e
      injection e with e
      omega
  refine ⟨by simp [hl], fun i hi => ?_⟩
  simp only [List.length_append, List.length_singleton] at hi
  by_cases hlt : i < L.length
  · obtain ⟨Ai, ci, a, b, c, d⟩ := hc i hlt
    rw [List.getElem_append_left hlt]
    exact ⟨Ai, ci, by rw [List.getElem?_append_left (by omega)]; exact a, read_grow b c hg, hap _ _ b c, d⟩
  · have hie : i = L.length := by omega
    subst hie
    rw [List.getElem_append_right (by omega)]
    simp only [Nat.sub_self, List.getElem_cons_zero]
    exact ⟨Ar, cr, by rw [List.getElem?_append_right (by omega), hl, Nat.sub_self]; rfl, read_grow hr ha hg, hap _ _ hr ha, h1, h2⟩
theorem HdrsR.rows {ob : Option Nat} {w : World} {A : Option Addr} {c n : Nat} {base : Nat} {hs : List Value} {L : List (List Int)} (h : HdrsR ob w hs L) (ho : w.ownsRow base 30 1 (.slice A n c) n hs) : RowsR CI w A L := by
  intro h0
  obtain ⟨b, off, e, hc⟩ := own_read ho (by rw [h.1]; exact h0)
  refine ⟨b, off, e, fun i hi => ?_⟩
  obtain ⟨Ai, ci, a, r, _, s⟩ := h.2 i hi
  have := hc i (by rw [h.1]; exact hi)
  rw [List.getElem?_eq_getElem (by rw [h.1]; exact hi)] at a
  injection a with a
  rw [a] at this
  exact ⟨Ai, ci, this, r, s⟩
theorem arr_small {L : List (List Int)} {D m : Nat} (h : ArrOk L D m) : L.length + sumN L ≤ 1000 := by
  have h1 := sumN_le' (m := 16) (L := L) (fun r hr => by have := (h.2.2.2.2 r hr).1; have := h.2.2.2.1; omega)
  have := h.1
  have := h.2.2.1
  omega
theorem own_base {w : World} {base n g : Nat} {e : TypeId} {v : Value} {xs : List Value} (h : w.ownsRow base e 1 v n xs) (hg : v.ownBlock = some g) : base ≤ g ∧ g < w.heap.size := h.lt g hg
theorem made_read (w : World) (n : Nat) : ReadC (w.alloc (.cells (madeCells #[Value.int .i64 0] n) 3)) (some ⟨w.heap.size, 0, none⟩) (CI (List.replicate n 0)) :=
  aread_new (by rw [toList_madeCells_one]; simp)
/-- The headers tl lead to the rows T. -/
def TailR (w : World) (tl : List Value) (T : List (List Int)) : Prop := tl.length = T.length ∧ ∀ i (h : i < T.length), ∃ Ai ci, tl[i]? = some (.slice Ai T[i].length ci) ∧ ReadC w Ai (CI T[i]) ∧ T[i].length ≤ ci ∧ ci ≤ 9223372036854775807
theorem TailR.one {w : World} {tl : List Value} {T : List (List Int)} (h : TailR w tl T) : ∀ u ∈ tl, u.oneCell' = true := by
  intro u hu
  obtain ⟨i, hi, rfl⟩ := List.mem_iff_getElem.1 hu
  obtain ⟨Ai, ci, e, _⟩ := h.2 i (by rw [← h.1]; exact hi)
  rw [List.getElem?_eq_getElem hi] at e
  injection e with e
  rw [e]
  rfl
theorem tail_hdrs {w : World} {b off : Nat} {L : List (List Int)} (h : RowsR CI w (some ⟨b, off, none⟩) L) (h0 : 0 < L.length) : ∃ tl, TailR w tl L.tail ∧ ReadC w (some ⟨b, off + 1, none⟩) tl := by
  obtain ⟨b', off', e, hc⟩ := h h0
  injection e with e
  injection e with e1 e2
  subst e1 e2
  have hg : ∀ i (hi : i < L.tail.length), ∃ Ai ci, w.cell? ⟨b, off + 1 + i, none⟩ = some (.slice Ai L.tail[i].length ci) ∧ ReadC w Ai (CI L.tail[i]) ∧ L.tail[i].length ≤ ci ∧ ci ≤ 9223372036854775807 := by
    intro i hi
    rw [List.length_tail] at hi
    obtain ⟨Ai, ci, h1, h2⟩ := hc (i + 1) (by omega)
    rw [List.getElem_tail]
    exact ⟨Ai, ci, by rw [show off + 1 + i = off + (i + 1) by omega]; exact h1, h2⟩
  have hgd : ∀ i, i < L.tail.length → w.cell? ⟨b, off + 1 + i, none⟩ = some ((w.cell? ⟨b, off + 1 + i, none⟩).getD (.slice none 0 0)) := by
    intro i hi
    obtain ⟨Ai, ci, h1, _⟩ := hg i hi
    rw [h1]
    rfl
  refine ⟨(List.range L.tail.length).map fun i => (w.cell? ⟨b, off + 1 + i, none⟩).getD (.slice none 0 0), ⟨by simp, fun i hi => ?_⟩, fun _ => ⟨b, off + 1, rfl, fun i hi => ?_⟩⟩
  · obtain ⟨Ai, ci, h1, h2⟩ := hg i hi
    refine ⟨Ai, ci, ?_, h2⟩
    rw [List.getElem?_eq_getElem (by simpa using hi), List.getElem_map, List.getElem_range, h1]
    rfl
  · rw [List.getElem_map, List.getElem_range]
    exact hgd i (by simpa using hi)
theorem rows_cons {w u : World} {A6 A9 : Option Addr} {c6 c9 n base : Nat} {r : List Int} {tl : List Value} {T : List (List Int)} (ht : TailR w tl T) (hb : Below w.heap.size w u) (ho : u.ownsRow base 30 1 (.slice A9 n c9) n (.slice A6 r.length c6 :: tl))
    (hr : ReadC u A6 (CI r)) (h1 : r.length ≤ c6) (h2 : c6 ≤ 9223372036854775807) : RowsR CI u A9 (r :: T) := by
  intro _
  obtain ⟨b, off, e, hc⟩ := own_read ho (by simp)
  refine ⟨b, off, e, fun i hi => ?_⟩
  have hci := hc i (by simpa [ht.1] using hi)
  cases i with
  | zero => exact ⟨A6, c6, hci, hr, h1, h2⟩
  | succ i =>
    simp only [List.length_cons] at hi
    obtain ⟨Ai, ci, a, q, s⟩ := ht.2 i (by omega)
    simp only [List.getElem_cons_succ] at hci ⊢
    rw [List.getElem?_eq_getElem (by rw [ht.1]; omega)] at a
    injection a with a
    rw [a] at hci
    exact ⟨Ai, ci, hci, q.keep hb.block, s⟩
theorem rows_hd0 {w : World} {b off : Nat} {L : List (List Int)} (h : RowsR CI w (some ⟨b, off, none⟩) L) (h0 : 0 < L.length) : ∃ A0 c0, w.cell? ⟨b, off, none⟩ = some (.slice A0 (headN L) c0) ∧ ReadC w A0 (CI L[0]) := by
  obtain ⟨b', off', e, hc⟩ := h h0
  injection e with e
  injection e with e1 e2
  subst e1 e2
  obtain ⟨A0, c0, x, y, _⟩ := hc 0 h0
  rw [headN_get h0]
  exact ⟨A0, c0, x, y⟩
theorem cell_keepA {w w' : World} {p : Addr} {v : Value} (h : w.cell? p = some v) (hb : Below w.heap.size w w') : w'.cell? p = some v :=
  (World.cell?_of_block (hb.block _ (block_lt_of_cell h))).trans h
end Go.Proofs.Ytgdbchodlapdpaa
