/- The draw of arrays of disks: the array in memory of the call's own. No program in sight but its types. -/
import Derived.Test.YtgdbchodlapdpaaArrQ
import Derived.Test.YtgdbchodlapdpaaRowsG
import Derived.Test.YtgdbchodlapdpaaRd
namespace Go.Proofs.Ytgdbchodlapdpaa
open Go.RowKit
set_option linter.unusedVariables false

theorem agrown_below {W w w' : World} {row : Option Nat} {lo : Nat} (h : W.grownBy w row) (b : Below lo w w') (hl : W.heap.size ≤ lo) : W.grownBy w' row :=
  ⟨b.os.trans h.os, b.tape.trans h.tape, b.output.trans h.output, Nat.le_trans h.size b.size, fun k hk hn => (b.block k (by omega)).trans (h.block k hk hn)⟩
theorem agrown_row {W w w' : World} {rb : Nat} {row : Option Nat} (g : W.grownBy w (some rb)) (hg : w.grownBy w' row) (hr : ∀ k, row = some k → W.heap.size ≤ k) : W.grownBy w' (some rb) :=
  ⟨hg.os.trans g.os, hg.tape.trans g.tape, hg.output.trans g.output, Nat.le_trans g.size hg.size, fun k hk hn => (hg.block k (by have := g.size; omega) (fun e => by have := hr k e.symm; omega)).trans (g.block k hk hn)⟩
theorem agrown_set {W w : World} {rb : Nat} (g : W.grownBy w (some rb)) {p : Addr} (hp : W.heap.size ≤ p.block) (u : Value) : W.grownBy (w.setCell p u) (some rb) :=
  agrown_below (lo := W.heap.size) g ((Below.refl _ _).setCell hp u) (Nat.le_refl _)
theorem aread_new {w : World} {T : TypeId} {cs : Array Value} {xs : List Value} (h : xs = cs.toList) : ReadC (w.alloc (.cells cs T)) (some ⟨w.heap.size, 0, none⟩) xs := by
  subst h
  intro h0
  refine ⟨w.heap.size, 0, rfl, fun i hi => ?_⟩
  rw [cell_of_row _ _ _ _ _ _ (heap_alloc_new w _), Nat.zero_add]
  simp at hi
  simp [hi]
/-- The array, in blocks of the call's own; the reader rb has made at most Q steps. -/
def ASt (W : World) (rb Q : Nat) (A : Option Addr) (c : Nat) (L : List (List Int)) (w : World) : Prop :=
  (∃ lo hi, RowsI lo hi w (.slice A L.length c) L ∧ W.heap.size ≤ lo ∧ hi ≤ w.heap.size ∧ lo ≤ hi) ∧ RdAt w rb Q ∧ W.grownBy w (some rb) ∧ rb < W.heap.size
section
variable {W w w' : World} {rb Q Q' c : Nat} {A : Option Addr} {L : List (List Int)}
theorem ASt.read (h : ASt W rb Q A c L w) : RowsR CI w A L := by
  obtain ⟨⟨_, _, h, _⟩, _⟩ := h
  exact h.read
theorem ASt.cap (h : ASt W rb Q A c L w) : L.length ≤ c ∧ c ≤ 9223372036854775807 := by
  obtain ⟨⟨_, _, h, _⟩, _⟩ := h
  obtain ⟨_, _, e, h1, h2⟩ := h.slice
  injection e with _ _ e
  subst e
  exact ⟨h1, h2⟩
theorem ASt.rd (h : ASt W rb Q A c L w) : RdAt w rb Q := h.2.1
theorem ASt.drew (h : ASt W rb Q A c L w) : ASt W rb Q A c L w.drew := by
  obtain ⟨⟨lo, hi, h, h1, h2⟩, r, g, l⟩ := h
  exact ⟨⟨lo, hi, h.drew, h1, h2⟩, r.drew, gdrew g, l⟩
theorem ASt.pick (h : ASt W rb Q A c L w) (hr : RdAt w' rb Q') (hg : w.grownBy w' (some rb)) : ASt W rb Q' A c L w' := by
  obtain ⟨⟨lo, hi, h, h1, h2⟩, r, g, l1⟩ := h
  exact ⟨⟨lo, hi, h.keep (fun k k1 _ hk => hg.block k hk (fun e => by injection e with e; omega)), h1, Nat.le_trans h2.1 hg.size, h2.2⟩, hr, gtrans g hg, l1⟩
theorem ASt.put {A' : Option Addr} {c' : Nat} {L' : List (List Int)} (h : ASt W rb Q A c L w) (b : Below w.heap.size w w') (o : RowsI w.heap.size w'.heap.size w' (.slice A' L'.length c') L') : ASt W rb Q A' c' L' w' := by
  obtain ⟨_, r, g, l1⟩ := h
  have hgs := g.size
  exact ⟨⟨w.heap.size, w'.heap.size, o, hgs, Nat.le_refl _, b.size⟩, r.below b (by omega), agrown_below g b hgs, l1⟩
theorem ASt.start (hr : RdAt w rb Q) (hg : W.grownBy w (some rb)) (hlt : rb < W.heap.size) : ASt W rb Q (some ⟨w.heap.size, 0, none⟩) 0 [] (w.alloc (.cells #[] 30)) :=
  ⟨⟨w.heap.size, w.heap.size + 1, rowsO_lit (World.ownsRow_lit (e := 30) (size := 1) (base := w.heap.size) w #[] 0 (Nat.le_refl _) (by simp [maxLen]) (by simp)) (by omega), hg.size, by simp, by simp⟩, hr.alloc _, galloc hg _, hlt⟩
theorem own_made (w : World) (n : Nat) (hn : n ≤ maxLen) : (w.alloc (.cells (madeCells #[Value.int .i64 0] n) 3)).ownsRow w.heap.size 3 1 (.slice (some ⟨w.heap.size, 0, none⟩) n n) n ((List.replicate n (0 : Int)).map (Value.int .i64)) :=
  ⟨by simp, .inr ⟨w.heap.size, n, _, rfl, Nat.le_refl _, heap_alloc_new w _, Nat.le_refl _, hn, by simp [size_madeCells], by rw [toList_madeCells_one, List.take_of_length_le (by simp)]; simp⟩⟩
/-- A row of zeros appended. -/
theorem ASt.grow (h : ASt W rb Q A c L w) (n : Nat) (hn : n ≤ 1000) {w2 : World} (hw2 : w2 = (w.alloc (.cells (madeCells #[.int .i64 0] n) 3)).alloc (.cells #[.slice (some ⟨w.heap.size, 0, none⟩) n n] 30)) :
    ∃ lo hs, w2.ownsRow lo 30 1 (.slice A L.length c) L.length hs ∧ lo ≤ w2.heap.size ∧ ReadC w2 (some ⟨w.heap.size + 1, 0, none⟩) [.slice (some ⟨w.heap.size, 0, none⟩) n n] ∧ ∀ A' c' w', w'.ownsRow lo 30 1 (.slice A' (L.length + 1) c') (L.length + 1) (hs ++ [.slice (some ⟨w.heap.size, 0, none⟩) n n]) → w2.grownBy w' (Value.slice A L.length c).ownBlock →
      ((Value.slice A' (L.length + 1) c').ownBlock = (Value.slice A L.length c).ownBlock ∨ (Value.slice A' (L.length + 1) c').ownBlock = some w2.heap.size) → ASt W rb Q A' c' (L ++ [List.replicate n 0]) w' := by
  obtain ⟨⟨lo, hi, h, h1, h2⟩, r, g, l1⟩ := h
  have h' := (h.alloc (.cells (madeCells #[.int .i64 0] n) 3)).alloc (.cells #[.slice (some ⟨w.heap.size, 0, none⟩) n n] 30)
  have ow := (own_made w n (by simp only [maxLen]; omega)).alloc (.cells #[.slice (some ⟨w.heap.size, 0, none⟩) n n] 30)
  have rd := (r.alloc (.cells (madeCells #[.int .i64 0] n) 3)).alloc (.cells #[.slice (some ⟨w.heap.size, 0, none⟩) n n] 30)
  have gg := galloc (galloc g (.cells (madeCells #[.int .i64 0] n) 3)) (.cells #[.slice (some ⟨w.heap.size, 0, none⟩) n n] 30)
  have hrc : ReadC w2 (some ⟨w.heap.size + 1, 0, none⟩) [.slice (some ⟨w.heap.size, 0, none⟩) n n] := by
    have := aread_new (w := w.alloc (.cells (madeCells #[.int .i64 0] n) 3)) (T := 30) (cs := #[.slice (some ⟨w.heap.size, 0, none⟩) n n]) (xs := [.slice (some ⟨w.heap.size, 0, none⟩) n n]) rfl
    rw [hw2]
    simpa using this
  rw [← hw2] at h' ow rd gg
  have hs2 : w2.heap.size = w.heap.size + 2 := by rw [hw2]; simp
  obtain ⟨Dx, cx, hs, ev, o1, v1, hH, hap⟩ := h'
  injection ev with ev1 _ ev3
  subst ev1 ev3
  refine ⟨lo, hs, o1, by have := g.size; omega, hrc, fun A' c' w' o' g' n' => ?_⟩
  have hout := RowsO.app (C := CI) (r := List.replicate n 0) (A' := A') (c' := c') (Ar := some ⟨w.heap.size, 0, none⟩) (cr := n) o1 v1 hH hap (by simpa using ow) h2.1 (by have := g.size; omega) (by simpa using o') g' (by simpa using n')
  exact ⟨⟨lo, w'.heap.size, hout, h1, Nat.le_refl _, by have := g'.size; have := g.size; omega⟩, rd.grown g' (fun k hk => by have := (o1.lt k hk).1; omega), agrown_row gg g' (fun k hk => by have := (o1.lt k hk).1; omega), l1⟩
/-- The header of a row, a cell of the row, and a store there. -/
theorem ASt.cell (h : ASt W rb Q A c L w) (k : Nat) (hk : k < L.length) :
    ∃ g0 Ai ci, A = some ⟨g0, 0, none⟩ ∧ W.heap.size ≤ g0 ∧ w.cell? ⟨g0, k, none⟩ = some (.slice Ai L[k].length ci) ∧ ∀ r, r < L[k].length → ∃ g4 u, Ai = some ⟨g4, 0, none⟩ ∧ W.heap.size ≤ g4 ∧ w.cell? ⟨g4, r, none⟩ = some u ∧ w.frozen? ⟨g4, r, none⟩ = false ∧ ∀ x, ASt W rb Q A c (wrt1 L k r x) (w.setCell ⟨g4, r, none⟩ (.int .i64 x)) := by
  obtain ⟨⟨lo, hi, h, h1, h2⟩, rd, g, l1⟩ := h
  obtain ⟨g0, Ai, ci, rfl, l0, _, _, hc, _, _, _⟩ := h.row k hk
  refine ⟨g0, Ai, ci, rfl, by omega, hc, fun r hr => ?_⟩
  obtain ⟨g4, c4, u, x4, ne, hlo, y4, f4, hst⟩ := rows_store h k hk r hr
  rw [hc] at x4
  injection x4 with x4
  injection x4 with x1 _ x3
  subst x1 x3
  refine ⟨g4, u, rfl, by omega, y4, f4, fun x => ⟨⟨lo, hi, ?_, h1, by simpa using h2.1, h2.2⟩, rd.setCell (by show rb < g4; omega) _, agrown_set g (by show _ ≤ g4; omega) _, l1⟩⟩
  have := hst x
  rw [wrt1_length]
  exact this
def DrawnA (rb : Nat) (W : World) (e : Ending) (w' : World) : Prop :=
  ∃ A c L, e = .returned (.slice A L.length c) ∧ (∀ w'' : World, (∀ k, W.heap.size ≤ k → k < w'.heap.size → w''.heap[k]? = w'.heap[k]?) → RowsR CI w'' A L) ∧ 1 ≤ L.length ∧ L.length ≤ c ∧ c ≤ 9223372036854775807 ∧ L.length + sumN L ≤ 60 ∧ RdAt w' rb 100001100 ∧ W.grownBy w' (some rb)
theorem sum_rows {L : List (List Int)} {m : Nat} (h : ∀ r ∈ L, r.length ≤ m) : sumN L ≤ m * L.length := sumN_le' h
theorem ASt.fin (h : ASt W rb Q A c L w) (hQ : Q ≤ 100001100) (h1 : 1 ≤ L.length) (hs : L.length + sumN L ≤ 60) : DrawnA rb W (.returned (.slice A L.length c)) w := by
  have hc := h.cap
  obtain ⟨⟨lo, hi, h, a1, a2⟩, rd, g, l1⟩ := h
  exact ⟨A, c, L, rfl, fun w'' hk => (h.keep (fun k k1 _ k3 => hk k (by omega) k3)).read, h1, hc.1, hc.2, hs, rd.mono hQ, g⟩
theorem RowsR.take {C : List Int → List Value} {k : Nat} (h : RowsR C w A L) : RowsR C w A (L.take k) := by
  intro h0
  rw [List.length_take] at h0
  obtain ⟨b, off, e, hc⟩ := h (by omega)
  refine ⟨b, off, e, fun i hi => ?_⟩
  rw [List.length_take] at hi
  obtain ⟨Ai, ci, x⟩ := hc i (by omega)
  exact ⟨Ai, ci, by rw [List.getElem_take]; exact x⟩
/-- The first disk alone. -/
theorem ASt.fin1 (h : ASt W rb Q A c L w) (hQ : Q ≤ 100001100) (h1 : 1 ≤ L.length) (hs : L.length + sumN L ≤ 60) : DrawnA rb W (.returned (.slice A 1 c)) w := by
  have hc := h.cap
  obtain ⟨⟨lo, hi, h, a1, a2⟩, rd, g, l1⟩ := h
  have hl : (L.take 1).length = 1 := by rw [List.length_take]; omega
  refine ⟨A, c, L.take 1, by rw [hl], fun w'' hk => RowsR.take (h.keep (fun k k1 _ k3 => hk k (by omega) k3)).read, by omega, by omega, hc.2, ?_, rd.mono hQ, g⟩
  have := sumN_take L 1
  omega
/-- A value appended to the first disk. -/
theorem ASt.bend0 (h : ASt W rb Q A c L w) (h1 : 0 < L.length) :
    ∃ lo g0 Ai ci, A = some ⟨g0, 0, none⟩ ∧ w.cell? ⟨g0, 0, none⟩ = some (.slice Ai L[0].length ci) ∧ w.frozen? ⟨g0, 0, none⟩ = false ∧ W.heap.size ≤ lo ∧ lo ≤ w.heap.size ∧ (w.alloc (.cells #[.int .i64 0] 3)).ownsRow lo 3 1 (.slice Ai L[0].length ci) L[0].length (CI L[0]) ∧ (∀ g, (Value.slice Ai L[0].length ci).ownBlock = some g → g ≠ g0) ∧
      ∀ (w6 : World) (A6 : Option Addr) (c6 : Nat), w6.ownsRow lo 3 1 (.slice A6 (L[0].length + 1) c6) (L[0].length + 1) (CI L[0] ++ [.int .i64 0]) → (w.alloc (.cells #[.int .i64 0] 3)).grownBy w6 (Value.slice Ai L[0].length ci).ownBlock →
        ((Value.slice A6 (L[0].length + 1) c6).ownBlock = (Value.slice Ai L[0].length ci).ownBlock ∨ (Value.slice A6 (L[0].length + 1) c6).ownBlock = some (w.heap.size + 1)) →
        ASt W rb Q A c (L.set 0 (L[0] ++ [0])) (w6.setCell ⟨g0, 0, none⟩ (.slice A6 (L[0].length + 1) c6)) ∧ w6.cell? ⟨g0, 0, none⟩ = some (.slice Ai L[0].length ci) ∧ w6.frozen? ⟨g0, 0, none⟩ = false := by
  obtain ⟨⟨lo, hi, h, a1, a2⟩, rd, g, l1⟩ := h
  obtain ⟨g0, Ai, ci, rfl, l0, l2, l3, hc, hf, ho, hb⟩ := h.row 0 h1
  have hgs := g.size
  have hlo : lo ≤ w.heap.size := by omega
  have hoa := ho.alloc (.cells #[.int .i64 0] 3)
  refine ⟨lo, g0, Ai, ci, rfl, hc, hf, a1, hlo, hoa, fun k hk => (hb k hk).2, fun w6 A6 c6 o6 g6 n6 => ?_⟩
  have hz := g6.size
  simp at hz
  have hne : (Value.slice Ai L[0].length ci).ownBlock ≠ some g0 := fun e => (hb g0 e).2 rfl
  have hc1 : (w.alloc (.cells #[.int .i64 0] 3)).cell? ⟨g0, 0, none⟩ = some (.slice Ai L[0].length ci) := by rw [World.cell?_alloc_some _ _ _ (by rw [hc]; rfl), hc]
  have hb0 := g6.block g0 (by simp; omega) (fun e => hne e.symm)
  have hlen : (L[0] ++ [(0 : Int)]).length = L[0].length + 1 := by simp
  have hgr := h.growRow (w5 := w.alloc (.cells #[.int .i64 0] 3)) (w6 := w6) (r := L[0] ++ [0]) (A6 := A6) (c6 := c6) h1 hc (fun k _ _ hk => Below.heap_alloc w _ k hk) (by simp) (by rw [hlen]; simpa using o6) g6 (by rw [hlen]; simpa using n6)
  rw [hlen] at hgr
  refine ⟨⟨⟨lo, w6.heap.size, by rw [List.length_set]; exact hgr, a1, by simp, by omega⟩, ((rd.alloc _).grown g6 (fun k hk => by have := (ho.lt k hk).1; omega)).setCell (by show rb < g0; omega) _, agrown_set (agrown_row (galloc g _) g6 (fun k hk => by have := (ho.lt k hk).1; omega)) (by show _ ≤ g0; omega) _, l1⟩, ?_, ?_⟩
  · exact (World.cell?_of_block hb0).trans hc1
  · have : w6.heap[g0]? = w.heap[g0]? := hb0.trans (Below.heap_alloc w _ g0 l3)
    unfold World.frozen? at hf ⊢
    rw [this]
    exact hf
/-- Another row in the place of the first disk's. -/
theorem ASt.bend2 (h : ASt W rb Q A c L w) (h1 : 0 < L.length) :
    ∃ g0 Ai ci, A = some ⟨g0, 0, none⟩ ∧ w.cell? ⟨g0, 0, none⟩ = some (.slice Ai L[0].length ci) ∧ ReadC w Ai (CI L[0]) ∧
      ∀ (w6 : World) (A6 : Option Addr) (c6 : Nat) (r : List Int), w6.ownsRow w.heap.size 3 1 (.slice A6 r.length c6) r.length (CI r) → Below w.heap.size w w6 →
        ASt W rb Q A c (L.set 0 r) (w6.setCell ⟨g0, 0, none⟩ (.slice A6 r.length c6)) ∧ w6.cell? ⟨g0, 0, none⟩ = some (.slice Ai L[0].length ci) ∧ w6.frozen? ⟨g0, 0, none⟩ = false := by
  obtain ⟨⟨lo, hi, h, a1, a2⟩, rd, g, l1⟩ := h
  obtain ⟨g0, Ai, ci, rfl, l0, l2, l3, hc, hf, ho, hb⟩ := h.row 0 h1
  have hgs := g.size
  refine ⟨g0, Ai, ci, rfl, hc, own_read ho, fun w6 A6 c6 r o6 b6 => ?_⟩
  have hz := b6.size
  have hset := (h.below b6).setNew 0 h1 r A6 c6 o6 a2.1 (fun k hk => (o6.lt k hk).2) (by omega : hi ≤ w6.heap.size)
  refine ⟨⟨⟨lo, w6.heap.size, by rw [List.length_set]; exact hset, a1, by simp, by omega⟩, (rd.below b6 (by omega)).setCell (by show rb < g0; omega) _, agrown_set (agrown_below g b6 hgs) (by show _ ≤ g0; omega) _, l1⟩, ?_, ?_⟩
  · exact (World.cell?_of_block (b6.block g0 l3)).trans hc
  · exact frozen_keep hc hf b6
end
end Go.Proofs.Ytgdbchodlapdpaa
