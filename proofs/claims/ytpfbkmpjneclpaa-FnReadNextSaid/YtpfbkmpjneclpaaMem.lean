/- Memory words: a slice that reads as a list of cells; a slice that lies in memory of the call's own; only blocks of a range have been written. No program in sight. -/
import Derived.Test.YtpfbkmpjneclpaaBase
import Derived.OwnWalk
import Derived.Laws.OwnMore
import Derived.Deep.OwnRows
import Derived.Maps.AppendAt
namespace Go.Proofs.Ytpfbkmpjneclpaa
open Go.RowKit

/-- The slice's address A leads to the cells xs. -/
def ReadC (w : World) (A : Option Addr) (xs : List Value) : Prop :=
  0 < xs.length → ∃ b off, A = some ⟨b, off, none⟩ ∧ ∀ i (h : i < xs.length), w.cell? ⟨b, off + i, none⟩ = some xs[i]

theorem ReadC.nil (w : World) (A : Option Addr) : ReadC w A [] := fun h => absurd h (by simp)
theorem ReadC.keep {w w' : World} {A : Option Addr} {xs : List Value} (h : ReadC w A xs) (hk : ∀ k, k < w.heap.size → w'.heap[k]? = w.heap[k]?) : ReadC w' A xs := by
  intro h0
  obtain ⟨b, off, e, hc⟩ := h h0
  exact ⟨b, off, e, fun i hi => (World.cell?_of_block (hk b (block_lt_of_cell (hc i hi)))).trans (hc i hi)⟩
theorem ReadC.below {w w' : World} {A : Option Addr} {xs : List Value} (h : ReadC w A xs) (hb : Below w.heap.size w w') : ReadC w' A xs := h.keep hb.block
theorem ReadC.alloc {w : World} {A : Option Addr} {xs : List Value} (h : ReadC w A xs) (o : Obj) : ReadC (w.alloc o) A xs := h.keep fun k hk => Below.heap_alloc w o k hk
theorem ReadC.drewN {w : World} {A : Option Addr} {xs : List Value} (h : ReadC w A xs) (n : Nat) : ReadC (w.drewN n) A xs := h
theorem ReadC.drew {w : World} {A : Option Addr} {xs : List Value} (h : ReadC w A xs) : ReadC w.drew A xs := h

/-- Only blocks from lo to hi have been written; new ones may have come. -/
structure Turn (lo hi : Nat) (w w' : World) : Prop where
  os : w'.os = w.os
  tape : w'.tape = w.tape
  output : w'.output = w.output
  size : w.heap.size ≤ w'.heap.size
  block : ∀ k, k < w.heap.size → ¬ (lo ≤ k ∧ k < hi) → w'.heap[k]? = w.heap[k]?

theorem Turn.refl (lo hi : Nat) (w : World) : Turn lo hi w w := ⟨rfl, rfl, rfl, Nat.le_refl _, fun _ _ _ => rfl⟩
theorem Turn.trans {lo hi : Nat} {a b c : World} (h : Turn lo hi a b) (k : Turn lo hi b c) : Turn lo hi a c :=
  ⟨k.os.trans h.os, k.tape.trans h.tape, k.output.trans h.output, Nat.le_trans h.size k.size, fun i hi hn => (k.block i (Nat.lt_of_lt_of_le hi h.size) hn).trans (h.block i hi hn)⟩
theorem Turn.mono {lo hi lo' hi' : Nat} {a b : World} (h : Turn lo hi a b) (h1 : lo' ≤ lo) (h2 : hi ≤ hi') : Turn lo' hi' a b :=
  ⟨h.os, h.tape, h.output, h.size, fun i hi hn => h.block i hi (by omega)⟩
theorem Turn.of_below {lo hi : Nat} {a b : World} (h : Below a.heap.size a b) : Turn lo hi a b :=
  ⟨h.os, h.tape, h.output, h.size, fun i hi _ => h.block i hi⟩
theorem Turn.below {lo hi : Nat} {a b : World} (h : Turn lo hi a b) (B : Nat) (hB : B ≤ lo) (hs : B ≤ a.heap.size) : Below B a b :=
  ⟨h.os, h.tape, h.output, h.size, fun i hi => h.block i (by omega) (by omega)⟩
theorem Turn.drewN {lo hi : Nat} {a b : World} (h : Turn lo hi a b) (n : Nat) : Turn lo hi a (b.drewN n) := ⟨h.os, h.tape, h.output, h.size, h.block⟩
theorem Turn.drew {lo hi : Nat} {a b : World} (h : Turn lo hi a b) : Turn lo hi a b.drew := ⟨h.os, h.tape, h.output, h.size, h.block⟩
theorem Turn.alloc {lo hi : Nat} {a b : World} (h : Turn lo hi a b) (o : Obj) : Turn lo hi a (b.alloc o) :=
  h.trans ⟨rfl, rfl, rfl, by simp, fun k hk _ => Below.heap_alloc b o k hk⟩
theorem Turn.setCell {lo hi : Nat} {a b : World} (h : Turn lo hi a b) {p : Addr} (h1 : lo ≤ p.block) (h2 : p.block < hi) (v : Value) : Turn lo hi a (b.setCell p v) :=
  h.trans ⟨rfl, rfl, rfl, by simp [World.setCell], fun k hk hn => Below.heap_setCell b p v k (by omega)⟩

/-- The slice's address A leads to the head of a block from lo to hi whose first cells are xs and may be written. -/
def OwnC (lo hi : Nat) (w : World) (T : TypeId) (A : Option Addr) (xs : List Value) : Prop :=
  0 < xs.length → ∃ g cur, A = some ⟨g, 0, none⟩ ∧ lo ≤ g ∧ g < hi ∧ w.heap[g]? = some (.cells cur T (0, 0)) ∧ cur.toList.take xs.length = xs

theorem OwnC.nil (lo hi : Nat) (w : World) (T : TypeId) (A : Option Addr) : OwnC lo hi w T A [] := fun h => absurd h (by simp)

theorem take_getElem {cur : Array Value} {xs : List Value} (h : cur.toList.take xs.length = xs) (i : Nat) (hi : i < xs.length) : cur[i]? = some xs[i] := by
  have h1 : (cur.toList.take xs.length)[i]? = xs[i]? := by rw [h]
  rw [List.getElem?_take, if_pos hi, List.getElem?_eq_getElem hi] at h1
  simpa using h1

theorem OwnC.read {lo hi : Nat} {w : World} {T : TypeId} {A : Option Addr} {xs : List Value} (h : OwnC lo hi w T A xs) : ReadC w A xs := by
  intro h0
  obtain ⟨g, cur, e, _, _, hh, ht⟩ := h h0
  refine ⟨g, 0, e, fun i hi => ?_⟩
  rw [Nat.zero_add]
  rw [cell_of_row _ _ _ _ _ _ hh]; exact take_getElem ht i hi

theorem OwnC.keep {lo hi : Nat} {w w' : World} {T : TypeId} {A : Option Addr} {xs : List Value} (h : OwnC lo hi w T A xs) (hk : ∀ k, lo ≤ k → k < hi → k < w.heap.size → w'.heap[k]? = w.heap[k]?) : OwnC lo hi w' T A xs := by
  intro h0
  obtain ⟨g, cur, e, h1, h2, hh, ht⟩ := h h0
  exact ⟨g, cur, e, h1, h2, (hk g h1 h2 (Array.getElem?_eq_some_iff.1 hh).1).trans hh, ht⟩
theorem OwnC.below {lo hi : Nat} {w w' : World} {T : TypeId} {A : Option Addr} {xs : List Value} (h : OwnC lo hi w T A xs) (hb : Below w.heap.size w w') : OwnC lo hi w' T A xs :=
  h.keep fun k _ _ hk => hb.block k hk
theorem OwnC.alloc {lo hi : Nat} {w : World} {T : TypeId} {A : Option Addr} {xs : List Value} (h : OwnC lo hi w T A xs) (o : Obj) : OwnC lo hi (w.alloc o) T A xs :=
  h.keep fun k _ _ hk => Below.heap_alloc w o k hk
theorem OwnC.drewN {lo hi : Nat} {w : World} {T : TypeId} {A : Option Addr} {xs : List Value} (h : OwnC lo hi w T A xs) (n : Nat) : OwnC lo hi (w.drewN n) T A xs := h
/-- What lies in one range is as it was where another range has been written. -/
theorem OwnC.turn {lo hi lo' hi' : Nat} {w w' : World} {T : TypeId} {A : Option Addr} {xs : List Value} (h : OwnC lo hi w T A xs) (ht : Turn lo' hi' w w') (hd : hi ≤ lo' ∨ hi' ≤ lo) : OwnC lo hi w' T A xs :=
  h.keep fun k h1 h2 hk => ht.block k hk (by omega)
theorem OwnC.mono {lo hi lo' hi' : Nat} {w : World} {T : TypeId} {A : Option Addr} {xs : List Value} (h : OwnC lo hi w T A xs) (h1 : lo' ≤ lo) (h2 : hi ≤ hi') : OwnC lo' hi' w T A xs := by
  intro h0
  obtain ⟨g, cur, e, h3, h4, r⟩ := h h0
  exact ⟨g, cur, e, by omega, by omega, r⟩
/-- A store into it. -/
theorem OwnC.set {lo hi : Nat} {w : World} {T : TypeId} {g : Nat} {xs : List Value} (h : OwnC lo hi w T (some ⟨g, 0, none⟩) xs) (i : Nat) (v : Value) :
    OwnC lo hi (w.setCell ⟨g, i, none⟩ v) T (some ⟨g, 0, none⟩) (xs.set i v) := by
  intro h0
  rw [List.length_set] at h0
  obtain ⟨g', cur, e, h1, h2, hh, ht⟩ := h h0
  have e' : g = g' := by injection e with e; injection e
  subst e'
  refine ⟨g, cur.setIfInBounds i v, rfl, h1, h2, heap_setCell_same w g i cur T v hh, ?_⟩
  rw [List.length_set, Array.toList_setIfInBounds, List.take_set, ht]

/-- From the kit's word for a slice that the call has built. -/
theorem OwnC.of_row {base : Nat} {w : World} {T : TypeId} {size : Nat} {A : Option Addr} {n c : Nat} {xs : List Value} (h : w.ownsRow base T size (.slice A n c) n xs) : OwnC base w.heap.size w T A xs := by
  intro h0
  obtain ⟨hl, h2⟩ := h
  rcases h2 with ⟨hv, hn⟩ | ⟨g, cap, cur, hv, hb, hh, _, _, _, ht⟩
  · subst hn; simp at hl; rw [hl] at h0; simp at h0
  · have hA : A = some ⟨g, 0, none⟩ := by injection hv
    exact ⟨g, cur, hA, hb, (Array.getElem?_eq_some_iff.1 hh).1, hh, by rw [hl]; exact ht⟩

theorem b_alloc {W a : World} (h : Below W.heap.size W a) (o : Obj) : Below W.heap.size W (a.alloc o) := h.alloc h.size o
theorem b_drew {W a : World} (h : Below W.heap.size W a) : Below W.heap.size W a.drew := h.drew

/-- Block g, of m cells that may be written, begins with the cells xs. -/
def Fill (w : World) (g : Nat) (T : TypeId) (m : Nat) (xs : List Value) : Prop :=
  ∃ cur, w.heap[g]? = some (.cells cur T (0, 0)) ∧ cur.size = m ∧ cur.toList.take xs.length = xs ∧ xs.length ≤ m
theorem Fill.lt {w : World} {g : Nat} {T : TypeId} {m : Nat} {xs : List Value} (h : Fill w g T m xs) : g < w.heap.size := by
  obtain ⟨cur, hh, _⟩ := h
  exact (Array.getElem?_eq_some_iff.1 hh).1
theorem Fill.keep {w w' : World} {g : Nat} {T : TypeId} {m : Nat} {xs : List Value} (h : Fill w g T m xs) (hk : w'.heap[g]? = w.heap[g]?) : Fill w' g T m xs := by
  obtain ⟨cur, hh, r⟩ := h
  exact ⟨cur, hk.trans hh, r⟩
theorem Fill.below {w w' : World} {g : Nat} {T : TypeId} {m : Nat} {xs : List Value} (h : Fill w g T m xs) (hb : Below w.heap.size w w') : Fill w' g T m xs := h.keep (hb.block g h.lt)
theorem Fill.new (w : World) (T : TypeId) (cur : Array Value) : Fill (w.alloc (.cells cur T)) w.heap.size T cur.size [] := ⟨cur, heap_alloc_new w _, rfl, by simp, by simp⟩
theorem Fill.cell {w : World} {g : Nat} {T : TypeId} {m : Nat} {xs : List Value} (h : Fill w g T m xs) (i : Nat) (hi : i < m) : ∃ u, w.cell? ⟨g, i, none⟩ = some u := by
  obtain ⟨cur, hh, hs, _⟩ := h
  exact ⟨cur[i]'(by omega), by rw [cell_of_row _ _ _ _ _ _ hh]; exact Array.getElem?_eq_getElem (by omega)⟩
theorem Fill.free {w : World} {g : Nat} {T : TypeId} {m : Nat} {xs : List Value} (h : Fill w g T m xs) (i : Nat) : w.frozen? ⟨g, i, none⟩ = false := by
  obtain ⟨cur, hh, _⟩ := h
  exact frozen_of_row _ _ _ _ _ hh
theorem Fill.push {w : World} {g : Nat} {T : TypeId} {m : Nat} {xs : List Value} (h : Fill w g T m xs) (v : Value) (i : Nat) (hi : i = xs.length) (hm : i < m) : Fill (w.setCell ⟨g, i, none⟩ v) g T m (xs ++ [v]) := by
  subst hi
  obtain ⟨cur, hh, hs, ht, hl⟩ := h
  refine ⟨cur.setIfInBounds xs.length v, heap_setCell_same w g _ cur T v hh, by simp [hs], ?_, by simp; omega⟩
  have e : cur.toList.take (xs.length + 1) = xs ++ [cur.toList[xs.length]'(by simp; omega)] := by
    rw [List.take_succ_eq_append_getElem (by simp; omega), ht]
  rw [List.length_append, List.length_singleton, Array.toList_setIfInBounds, List.take_set, e, List.set_append_right _ _ (Nat.le_refl _), Nat.sub_self]
  rfl
theorem Fill.own {w : World} {g : Nat} {T : TypeId} {m : Nat} {xs : List Value} (h : Fill w g T m xs) (lo hi : Nat) (h1 : lo ≤ g) (h2 : g < hi) : OwnC lo hi w T (some ⟨g, 0, none⟩) xs := by
  obtain ⟨cur, hh, _, ht, _⟩ := h
  exact fun _ => ⟨g, cur, rfl, h1, h2, hh, ht⟩

/-- make of a variable size, elements of any number of cells. -/
theorem make_rows {P : Program} (t e : TypeId) (z : Value) (sz bytes : Nat) (ht : P.underlying t = some (.slice e)) (hinfo : (P.info? e).map (fun i => (i.zero, i.size, i.bytes)) = some (some z, sz, bytes))
    (n : Nat) (hb : bytes * n ≤ 281474976710656) (hn : n ≤ 9223372036854775807) (w : World) :
    (Instr.makeSlice t (.int .i64 (n : Int)) (.int .i64 (n : Int))).run P w = .ok (.slice (some ⟨w.heap.size, 0, none⟩) n n) (w.alloc (.cells (madeCells z.cells (n * sz)) e)) := by
  obtain ⟨i, hi, hz0, hz1, hz2⟩ := info_parts hinfo
  have hb' : (i.bytes : Int) * (n : Int) ≤ 281474976710656 := by
    have h : ((i.bytes * n : Nat) : Int) ≤ 281474976710656 := by rw [hz2]; omega
    rwa [Int.natCast_mul] at h
  have hr := run_make (P := P) w t e i z ht hi hz0 .i64 .i64 n n (by omega) (Int.le_refl _) hb' (by omega)
  simp only [Int.toNat_natCast, hz1] at hr
  exact hr

/-- A slice that owns an element at least is written out. -/
theorem own_shape {w : World} {base : Nat} {e : TypeId} {size n : Nat} {v : Value} {xs : List Value} (h : w.ownsRow base e size v (n + 1) xs) : ∃ g cap, v = .slice (some ⟨g, 0, none⟩) (n + 1) cap := by
  rcases h.2 with ⟨_, h0⟩ | ⟨g, cap, _, rfl, _⟩
  · omega
  · exact ⟨g, cap, rfl⟩
/-- Any slice that the call has built is a slice. -/
theorem own_slice {w : World} {base : Nat} {e : TypeId} {size n : Nat} {v : Value} {xs : List Value} (h : w.ownsRow base e size v n xs) : ∃ A cap, v = .slice A n cap := by
  rcases h.2 with ⟨rfl, rfl⟩ | ⟨g, cap, _, rfl, _⟩
  · exact ⟨none, 0, rfl⟩
  · exact ⟨_, cap, rfl⟩
/-- The cells of a new block read as appended cells. -/
theorem news_at {w : World} {T : TypeId} {cs : Array Value} : ∀ j u, cs.toList[j]? = some u → (w.alloc (.cells cs T)).cell? ((⟨w.heap.size, 0, none⟩ : Addr).add j) = some u := by
  intro j u hu
  have : (⟨w.heap.size, 0, none⟩ : Addr).add j = ⟨w.heap.size, j, none⟩ := by unfold Addr.add; split <;> simp_all
  rw [this, cell_of_row _ _ _ _ _ _ (heap_alloc_new w _)]
  simpa using hu
end Go.Proofs.Ytpfbkmpjneclpaa
