/- Lists of lists: how a slice of slices reads, and when it lies in blocks of the call's own, each row in one of its own. No program in sight. -/
import Derived.Test.YtkjjieofoolnhaaOwn
namespace Go.Proofs.Ytkjjieofoolnhaa
open Go.RowKit
set_option linter.unusedVariables false
section
variable {α : Type} {C : List α → List Value}

/-- The slice's address A leads to the rows L; C says which cells a row has. -/
def RowsR (C : List α → List Value) (w : World) (A : Option Addr) (L : List (List α)) : Prop :=
  0 < L.length → ∃ b off, A = some ⟨b, off, none⟩ ∧ ∀ i (h : i < L.length), ∃ Ai ci, w.cell? ⟨b, off + i, none⟩ = some (.slice Ai L[i].length ci) ∧ ReadC w Ai (C L[i]) ∧ L[i].length ≤ ci ∧ ci ≤ 9223372036854775807
theorem RowsR.nil (w : World) (A : Option Addr) : RowsR C w A [] := fun h => absurd h (by simp)
theorem RowsR.keep {w w' : World} {A : Option Addr} {L : List (List α)} (h : RowsR C w A L) (hk : ∀ k, k < w.heap.size → w'.heap[k]? = w.heap[k]?) : RowsR C w' A L := by
  intro h0
  obtain ⟨b, off, e, hc⟩ := h h0
  refine ⟨b, off, e, fun i hi => ?_⟩
  obtain ⟨Ai, ci, h1, h2, h3, h4⟩ := hc i hi
  exact ⟨Ai, ci, (World.cell?_of_block (hk b (block_lt_of_cell h1))).trans h1, h2.keep hk, h3, h4⟩
theorem RowsR.below {w w' : World} {A : Option Addr} {L : List (List α)} (h : RowsR C w A L) (hb : Below w.heap.size w w') : RowsR C w' A L := h.keep hb.block
theorem RowsR.alloc {w : World} {A : Option Addr} {L : List (List α)} (h : RowsR C w A L) (o : Obj) : RowsR C (w.alloc o) A L := h.keep fun k hk => Below.heap_alloc w o k hk
theorem RowsR.drewN {w : World} {A : Option Addr} {L : List (List α)} (h : RowsR C w A L) (n : Nat) : RowsR C (w.drewN n) A L := h

/-- The headers hs lead to the rows L, each in a block of its own from lo to hi. -/
def HdrsO (C : List α → List Value) (T : TypeId) (sz lo hi : Nat) (w : World) (hs : List Value) (L : List (List α)) : Prop :=
  hs.length = L.length ∧ (∀ i (h : i < L.length), ∃ Ai ci, hs[i]? = some (.slice Ai L[i].length ci) ∧ w.ownsRow lo T sz (.slice Ai L[i].length ci) L[i].length (C L[i]) ∧ ∀ g, (Value.slice Ai L[i].length ci).ownBlock = some g → g < hi) ∧
    ∀ (i j : Nat) (a b : Value), i ≠ j → hs[i]? = some a → hs[j]? = some b → Apart a b
/-- The slice v leads to the rows L; it and each row lie in blocks of their own from lo to hi. -/
def RowsO (C : List α → List Value) (TT T : TypeId) (sz lo hi : Nat) (w : World) (v : Value) (L : List (List α)) : Prop :=
  ∃ A c hs, v = .slice A L.length c ∧ w.ownsRow lo TT 1 (.slice A L.length c) L.length hs ∧ (∀ g, (Value.slice A L.length c).ownBlock = some g → g < hi) ∧ HdrsO C T sz lo hi w hs L ∧ ∀ a ∈ hs, Apart (.slice A L.length c) a

variable {TT T : TypeId} {sz lo hi : Nat} {w w' : World} {v : Value} {L : List (List α)} {hs : List Value}
theorem HdrsO.keep (h : HdrsO C T sz lo hi w hs L) (hk : ∀ k, lo ≤ k → k < hi → k < w.heap.size → w'.heap[k]? = w.heap[k]?) : HdrsO C T sz lo hi w' hs L := by
  obtain ⟨h1, h2, h3⟩ := h
  refine ⟨h1, fun i hi => ?_, h3⟩
  obtain ⟨Ai, ci, a, b, c⟩ := h2 i hi
  exact ⟨Ai, ci, a, own_block b (fun g hg => hk g (b.lt g hg).1 (c g hg) (b.lt g hg).2), c⟩
theorem RowsO.keep (h : RowsO C TT T sz lo hi w v L) (hk : ∀ k, lo ≤ k → k < hi → k < w.heap.size → w'.heap[k]? = w.heap[k]?) : RowsO C TT T sz lo hi w' v L := by
  obtain ⟨A, c, hs, e, h1, h2, h3, h4⟩ := h
  exact ⟨A, c, hs, e, own_block h1 (fun g hg => hk g (h1.lt g hg).1 (h2 g hg) (h1.lt g hg).2), h2, h3.keep hk, h4⟩
theorem RowsO.below (h : RowsO C TT T sz lo hi w v L) (hb : Below w.heap.size w w') : RowsO C TT T sz lo hi w' v L := h.keep fun k _ _ hk => hb.block k hk
theorem RowsO.alloc (h : RowsO C TT T sz lo hi w v L) (o : Obj) : RowsO C TT T sz lo hi (w.alloc o) v L := h.keep fun k _ _ hk => Below.heap_alloc w o k hk
theorem RowsO.drewN (h : RowsO C TT T sz lo hi w v L) (n : Nat) : RowsO C TT T sz lo hi (w.drewN n) v L := h
theorem RowsO.drew (h : RowsO C TT T sz lo hi w v L) : RowsO C TT T sz lo hi w.drew v L := h
theorem RowsO.turn {lo' hi' : Nat} (h : RowsO C TT T sz lo hi w v L) (ht : Turn lo' hi' w w') (hd : hi ≤ lo' ∨ hi' ≤ lo) : RowsO C TT T sz lo hi w' v L :=
  h.keep fun k h1 h2 hk => ht.block k hk (by omega)
theorem RowsO.far {p : Addr} (h : RowsO C TT T sz lo hi w v L) (hp : p.block < lo ∨ hi ≤ p.block) (u : Value) : RowsO C TT T sz lo hi (w.setCell p u) v L :=
  h.keep fun k h1 h2 _ => Below.heap_setCell w p u k (by omega)
theorem RowsO.mono {lo' hi' : Nat} (h : RowsO C TT T sz lo hi w v L) (h1 : lo' ≤ lo) (h2 : hi ≤ hi') : RowsO C TT T sz lo' hi' w v L := by
  obtain ⟨A, c, hs, e, a1, a2, ⟨b1, b2, b3⟩, a4⟩ := h
  refine ⟨A, c, hs, e, own_mono a1 h1, fun g hg => by have := a2 g hg; omega, ⟨b1, fun i hi => ?_, b3⟩, a4⟩
  obtain ⟨Ai, ci, x, y, z⟩ := b2 i hi
  exact ⟨Ai, ci, x, own_mono y h1, fun g hg => by have := z g hg; omega⟩
theorem RowsO.slice (h : RowsO C TT T sz lo hi w v L) : ∃ A c, v = .slice A L.length c ∧ L.length ≤ c ∧ c ≤ 9223372036854775807 := by
  obtain ⟨A, c, hs, e, h1, _⟩ := h
  exact ⟨A, c, e, own_cap h1⟩
theorem RowsO.read {A : Option Addr} {c : Nat} (h : RowsO C TT T sz lo hi w (.slice A L.length c) L) : RowsR C w A L := by
  obtain ⟨A', c', hs, e, h1, h2, ⟨b1, b2, b3⟩, h4⟩ := h
  injection e with e1 e2 e3
  subst e1 e3
  intro h0
  obtain ⟨b, off, e, hc⟩ := own_read h1 (by omega)
  refine ⟨b, off, e, fun i hi => ?_⟩
  obtain ⟨Ai, ci, x, y, z⟩ := b2 i hi
  have hci := hc i (by omega)
  rw [List.getElem?_eq_getElem (by omega)] at x
  injection x with x
  rw [x] at hci
  exact ⟨Ai, ci, hci, own_read y, own_cap y⟩
/-- An empty slice of rows. -/
theorem RowsO.nil (w : World) (lo hi : Nat) : RowsO C TT T sz lo hi w (.slice none 0 0) [] :=
  ⟨none, 0, [], rfl, World.ownsRow_nil _ _ _ _, fun g hg => by simp [Value.ownBlock] at hg, ⟨rfl, fun i h => absurd h (by simp), fun i j a b _ h => by simp at h⟩, fun a h => by simp at h⟩
/-- Rows of make: none has a cell yet. -/
theorem RowsO.made (w : World) (n : Nat) (hn : n ≤ maxLen) (hC : C [] = []) (hlo : lo ≤ w.heap.size) (hhi : w.heap.size < hi) :
    RowsO C TT T sz lo hi (w.alloc (.cells (madeCells #[Value.slice none 0 0] n) TT)) (.slice (some ⟨w.heap.size, 0, none⟩) n n) (List.replicate n []) := by
  have hown : (w.alloc (.cells (madeCells #[Value.slice none 0 0] n) TT)).ownsRow lo TT 1 (.slice (some ⟨w.heap.size, 0, none⟩) n n) n (List.replicate n (.slice none 0 0)) :=
    ⟨by simp, .inr ⟨w.heap.size, n, _, rfl, hlo, heap_alloc_new w _, Nat.le_refl _, hn, by simp [size_madeCells], by rw [toList_madeCells_one, List.take_of_length_le (by simp)]⟩⟩
  have hno : ∀ (i : Nat) (a : Value), (List.replicate n (Value.slice none 0 0))[i]? = some a → a = .slice none 0 0 := by
    intro i a h
    rw [List.getElem?_replicate] at h
    split at h
    · injection h with h; exact h.symm
    · cases h
  refine ⟨some ⟨w.heap.size, 0, none⟩, n, List.replicate n (.slice none 0 0), by simp, by simpa using hown, fun g hg => by simp [Value.ownBlock] at hg; omega, ⟨by simp, fun i hi => ?_, fun i j a b _ h1 h2 => ?_⟩, fun a ha g h1 h2 => ?_⟩
  · refine ⟨none, 0, ?_, ?_, fun g hg => by simp [Value.ownBlock] at hg⟩
    · rw [List.length_replicate] at hi
      simp [hi]
    · rw [List.getElem_replicate, hC]
      exact World.ownsRow_nil _ _ _ _
  · rw [hno i a h1]
    intro g hg
    simp [Value.ownBlock] at hg
  · rw [List.eq_of_mem_replicate ha] at h2
    simp [Value.ownBlock] at h2
/-- The row number i, and the header that leads to it. -/
theorem RowsO.row {A : Option Addr} {c : Nat} (h : RowsO C TT T sz lo hi w (.slice A L.length c) L) (i : Nat) (hi' : i < L.length) :
    ∃ g0 Ai ci, A = some ⟨g0, 0, none⟩ ∧ lo ≤ g0 ∧ g0 < hi ∧ g0 < w.heap.size ∧ w.cell? ⟨g0, i, none⟩ = some (.slice Ai L[i].length ci) ∧ w.frozen? ⟨g0, i, none⟩ = false ∧ w.ownsRow lo T sz (.slice Ai L[i].length ci) L[i].length (C L[i]) ∧
      ∀ g, (Value.slice Ai L[i].length ci).ownBlock = some g → g < hi ∧ g ≠ g0 := by
  obtain ⟨A', c', hs, e, h1, h2, ⟨b1, b2, b3⟩, h4⟩ := h
  injection e with e1 e2 e3
  subst e1 e3
  rcases own_cases h1 with ⟨_, h0⟩ | ⟨g0, cap, hv, hg, hgs⟩
  · omega
  · injection hv with hA
    subst hA
    obtain ⟨Ai, ci, x, y, z⟩ := b2 i hi'
    refine ⟨g0, Ai, ci, rfl, hg, h2 g0 rfl, hgs, ?_, h1.frozenAt i, y, fun g hgg => ⟨z g hgg, fun e => h4 _ (List.mem_of_getElem? x) g0 rfl (e ▸ hgg)⟩⟩
    rw [h1.cellAt i (by omega)]; exact x
/-- A header stored: the row that it leads to is new there. -/
theorem RowsO.setHdr {g0 c : Nat} (h : RowsO C TT T sz lo hi w (.slice (some ⟨g0, 0, none⟩) L.length c) L) (i : Nat) (hi' : i < L.length) (r : List α) (Ar : Option Addr) (cr : Nat)
    (hr : w.ownsRow lo T sz (.slice Ar r.length cr) r.length (C r)) (hh : ∀ g, (Value.slice Ar r.length cr).ownBlock = some g → g < hi)
    (hap : ∀ g, (Value.slice Ar r.length cr).ownBlock = some g → g ≠ g0 ∧ ∀ j (hj : j < L.length), j ≠ i → ∀ Aj cj, w.cell? ⟨g0, j, none⟩ = some (.slice Aj L[j].length cj) → (Value.slice Aj L[j].length cj).ownBlock ≠ some g) :
    RowsO C TT T sz lo hi (w.setCell ⟨g0, i, none⟩ (.slice Ar r.length cr)) (.slice (some ⟨g0, 0, none⟩) L.length c) (L.set i r) := by
  obtain ⟨A', c', hs, e, h1, h2, ⟨b1, b2, b3⟩, h4⟩ := h
  injection e with e1 e2 e3
  subst e1 e3
  have hst := (h1.stored i (.slice Ar r.length cr)).1
  have hrc : ∀ j (hj : j < L.length), ∃ Aj cj, hs[j]? = some (.slice Aj L[j].length cj) ∧ w.cell? ⟨g0, j, none⟩ = some (.slice Aj L[j].length cj) := by
    intro j hj
    obtain ⟨Aj, cj, x, _⟩ := b2 j hj
    exact ⟨Aj, cj, x, by rw [h1.cellAt j (by omega)]; exact x⟩
  have hother : ∀ j a, j ≠ i → hs[j]? = some a → Apart (.slice Ar r.length cr) a := by
    intro j a hne ha g hg h
    have hj : j < L.length := by rw [← b1]; exact (List.getElem?_eq_some_iff.1 ha).1
    obtain ⟨Aj, cj, x, y⟩ := hrc j hj
    rw [x] at ha
    injection ha with ha
    subst ha
    exact (hap g hg).2 j hj hne Aj cj y h
  refine ⟨some ⟨g0, 0, none⟩, c, hs.set i (.slice Ar r.length cr), by simp, by simpa using hst, by simpa using h2, ⟨by simp [b1], fun j hj => ?_, fun j k a b hne ha hb => ?_⟩, fun a ha => ?_⟩
  · rw [List.length_set] at hj
    by_cases hji : j = i
    · subst hji
      refine ⟨Ar, cr, ?_, ?_, ?_⟩
      · rw [List.getElem?_set_self (by omega)]; simp
      · simp only [List.getElem_set_self]
        exact own_far (p := ⟨g0, j, none⟩) hr (fun g hg => (hap g hg).1) _
      · simp only [List.getElem_set_self]; exact hh
    · obtain ⟨Aj, cj, x, y, z⟩ := b2 j hj
      rw [List.getElem_set_ne (fun e => hji e.symm)]
      refine ⟨Aj, cj, by rw [List.getElem?_set_ne (fun e => hji e.symm)]; exact x, own_far (p := ⟨g0, i, none⟩) y (fun g hg e => ?_) _, z⟩
      subst e
      exact h4 _ (List.mem_of_getElem? x) _ rfl hg
  · by_cases hji : j = i
    · subst hji
      rw [List.getElem?_set_self (by omega)] at ha
      rw [List.getElem?_set_ne hne] at hb
      injection ha with ha
      subst ha
      exact hother k b (fun e => hne e.symm) hb
    · rw [List.getElem?_set_ne (fun e => hji e.symm)] at ha
      by_cases hki : k = i
      · subst hki
        rw [List.getElem?_set_self (by omega)] at hb
        injection hb with hb
        subst hb
        exact (hother j a hji ha).symm
      · rw [List.getElem?_set_ne (fun e => hki e.symm)] at hb
        exact b3 j k a b hne ha hb
  · have hm := List.mem_or_eq_of_mem_set ha
    rw [List.length_set]
    rcases hm with hm | rfl
    · exact h4 a hm
    · intro g hg hr'
      simp only [Value.ownBlock, Option.some.injEq] at hg
      exact (hap g hr').1 hg.symm
/-- A cell of a row stored. -/
theorem RowsO.setCell {g0 c : Nat} (h : RowsO C TT T sz lo hi w (.slice (some ⟨g0, 0, none⟩) L.length c) L) (i : Nat) (hi' : i < L.length) (g ci j : Nat) (u : Value) (r : List α)
    (hc : w.cell? ⟨g0, i, none⟩ = some (.slice (some ⟨g, 0, none⟩) L[i].length ci)) (hr : r.length = L[i].length) (hu : C r = (C L[i]).set j u) :
    RowsO C TT T sz lo hi (w.setCell ⟨g, j, none⟩ u) (.slice (some ⟨g0, 0, none⟩) L.length c) (L.set i r) := by
  obtain ⟨A', c', hs, e, h1, h2, ⟨b1, b2, b3⟩, h4⟩ := h
  injection e with e1 e2 e3
  subst e1 e3
  have hcell : ∀ k, k < L.length → w.cell? ⟨g0, k, none⟩ = hs[k]? := fun k hk => h1.cellAt k (by omega)
  rw [hcell i hi'] at hc
  have hg0 : g0 ≠ g := fun e => by subst e; exact h4 _ (List.mem_of_getElem? hc) _ rfl rfl
  refine ⟨some ⟨g0, 0, none⟩, c, hs, by simp, by simpa using own_far (p := ⟨g, j, none⟩) h1 (fun k hk => by simp [Value.ownBlock] at hk; show k ≠ g; omega) u, by simpa using h2, ⟨by simp [b1], fun k hk => ?_, b3⟩, by simpa using h4⟩
  rw [List.length_set] at hk
  obtain ⟨Ak, ck, x, y, z⟩ := b2 k hk
  by_cases hki : k = i
  · subst hki
    rw [hc] at x
    injection x with x
    injection x with x1 x2 x3
    subst x1 x3
    refine ⟨some ⟨g, 0, none⟩, ci, ?_, ?_, ?_⟩
    · simp only [List.getElem_set_self, hr]; exact hc
    · simp only [List.getElem_set_self, hr, hu]
      exact (y.stored j u).1
    · simp only [List.getElem_set_self, hr]; exact z
  · rw [List.getElem_set_ne (fun e => hki e.symm)]
    exact ⟨Ak, ck, x, own_far (p := ⟨g, j, none⟩) y (fun g' hg' e => by subst e; exact b3 k i _ _ hki x hc _ hg' rfl) u, z⟩
/-- A header stored, to a row that has been made behind all others. -/
theorem RowsO.setNew {g0 c hi2 lo2 : Nat} (h : RowsO C TT T sz lo hi w (.slice (some ⟨g0, 0, none⟩) L.length c) L) (i : Nat) (hi' : i < L.length) (r : List α) (Ar : Option Addr) (cr : Nat)
    (hr : w.ownsRow lo2 T sz (.slice Ar r.length cr) r.length (C r)) (hlo : hi ≤ lo2) (hh : ∀ g, (Value.slice Ar r.length cr).ownBlock = some g → g < hi2) (h2 : hi ≤ hi2) :
    RowsO C TT T sz lo hi2 (w.setCell ⟨g0, i, none⟩ (.slice Ar r.length cr)) (.slice (some ⟨g0, 0, none⟩) L.length c) (L.set i r) := by
  obtain ⟨g0', _, _, e, a1, a2, _⟩ := h.row i hi'
  have e' : g0' = g0 := by injection e with e; injection e with e; exact e.symm
  subst e'
  refine (h.mono (Nat.le_refl _) h2).setHdr i hi' r Ar cr (own_mono hr (by omega)) hh (fun g hg => ⟨fun e => by have := (hr.lt g hg).1; omega, fun j hj _ Aj cj hcj hg' => ?_⟩)
  obtain ⟨g1, Ak, ck, e1, _, _, _, hck, _, _, hblk⟩ := h.row j hj
  have e1' : g1 = g0' := by injection e1 with e1; injection e1 with e1; exact e1.symm
  subst e1'
  rw [hck] at hcj
  injection hcj with hcj
  injection hcj with x1 _ x3
  subst x1 x3
  have := (hblk g hg').1
  have := (hr.lt g hg).1
  omega
/-- One row written, in its own block. -/
theorem RowsO.turnRow {A : Option Addr} {c a b : Nat} (h : RowsO C TT T sz lo hi w (.slice A L.length c) L) (i : Nat) (hi' : i < L.length) (r : List α) {g0 : Nat} {Ai : Option Addr} {ci : Nat}
    (hA : A = some ⟨g0, 0, none⟩) (hc : w.cell? ⟨g0, i, none⟩ = some (.slice Ai L[i].length ci)) (ht : Turn a b w w') (hab : ∀ g, a ≤ g → g < b → (Value.slice Ai L[i].length ci).ownBlock = some g)
    (hl : r.length = L[i].length) (hr : w'.ownsRow lo T sz (.slice Ai L[i].length ci) L[i].length (C r)) : RowsO C TT T sz lo hi w' (.slice A L.length c) (L.set i r) := by
  obtain ⟨A', c', hs, e, h1, h2, ⟨b1, b2, b3⟩, h4⟩ := h
  injection e with e1 e2 e3
  subst e1 e3
  subst hA
  rw [h1.cellAt i (by omega)] at hc
  refine ⟨some ⟨g0, 0, none⟩, c, hs, by simp, by simpa using own_turn h1 ht (fun g hg hh => h4 _ (List.mem_of_getElem? hc) g hg (hab g hh.1 hh.2)), by simpa using h2, ⟨by simp [b1], fun k hk => ?_, b3⟩, by simpa using h4⟩
  rw [List.length_set] at hk
  obtain ⟨Ak, ck, x, y, z⟩ := b2 k hk
  by_cases hki : k = i
  · subst hki
    rw [hc] at x
    injection x with x
    injection x with x1 x2 x3
    subst x1 x3
    simp only [List.getElem_set_self, hl]
    exact ⟨Ai, ci, hc, hr, z⟩
  · rw [List.getElem_set_ne (fun e => hki e.symm)]
    exact ⟨Ak, ck, x, own_turn y ht (fun g hg hh => b3 k i _ _ hki x hc g hg (hab g hh.1 hh.2)), z⟩
/-- The number of elements of all rows. -/
def sumN : List (List α) → Nat
  | [] => 0
  | r :: t => r.length + sumN t
theorem sumN_append (L M : List (List α)) : sumN (L ++ M) = sumN L + sumN M := by
  induction L with
  | nil => simp [sumN]
  | cons r t ih => simp only [List.cons_append, sumN, ih]; omega
theorem sumN_step {L : List (List α)} {k : Nat} (h : k < L.length) : sumN (L.take (k + 1)) = sumN (L.take k) + L[k].length := by
  rw [List.take_succ_eq_append_getElem h, sumN_append]
  simp [sumN]
theorem sumN_take (L : List (List α)) (k : Nat) : sumN (L.take k) ≤ sumN L := by
  have := sumN_append (L.take k) (L.drop k)
  rw [List.take_append_drop] at this
  omega
theorem sumN_get {L : List (List α)} {k : Nat} (h : k < L.length) : L[k].length ≤ sumN L := by
  have := sumN_step h
  have := sumN_take L (k + 1)
  omega
end
end Go.Proofs.Ytkjjieofoolnhaa
