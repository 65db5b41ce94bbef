/- Slices in memory of the call's own, capacity and all: kept over draws, new blocks, calls that make memory, stores elsewhere. No program in sight. -/
import Derived.Test.YtpfbkmpjneclpaaMem
import Derived.Deep.AppendLies
import Derived.Deep.Onto
namespace Go.Proofs.Ytpfbkmpjneclpaa
open Go.RowKit
set_option linter.unusedVariables false
section
variable {w w' : World} {base : Nat} {e : TypeId} {size n : Nat} {v : Value} {xs : List Value}

theorem own_read {A : Option Addr} {c : Nat} (h : w.ownsRow base e size (.slice A n c) n xs) : ReadC w A xs := (OwnC.of_row h).read
theorem own_cases (h : w.ownsRow base e size v n xs) : (v = .slice none 0 0 ∧ n = 0) ∨ ∃ g cap, v = .slice (some ⟨g, 0, none⟩) n cap ∧ base ≤ g ∧ g < w.heap.size := by
  rcases h.2 with ⟨rfl, rfl⟩ | ⟨g, cap, cur, rfl, hb, hg, _⟩
  · exact .inl ⟨rfl, rfl⟩
  · exact .inr ⟨g, cap, rfl, hb, (Array.getElem?_eq_some_iff.1 hg).1⟩
theorem own_block (h : w.ownsRow base e size v n xs) (hk : ∀ g, v.ownBlock = some g → w'.heap[g]? = w.heap[g]?) : w'.ownsRow base e size v n xs := by
  obtain ⟨hl, h2⟩ := h
  refine ⟨hl, ?_⟩
  rcases h2 with ⟨rfl, rfl⟩ | ⟨g, cap, cur, rfl, hb, hg, r⟩
  · exact .inl ⟨rfl, rfl⟩
  · exact .inr ⟨g, cap, cur, rfl, hb, (hk g rfl).trans hg, r⟩
theorem own_below {B : Nat} (h : w.ownsRow base e size v n xs) (hb : Below B w w') (hB : w.heap.size ≤ B) : w'.ownsRow base e size v n xs :=
  own_block h fun g hg => hb.block g (by have := (h.lt g hg).2; omega)
theorem own_turn {lo hi : Nat} (h : w.ownsRow base e size v n xs) (ht : Turn lo hi w w') (hd : ∀ g, v.ownBlock = some g → ¬ (lo ≤ g ∧ g < hi)) : w'.ownsRow base e size v n xs :=
  own_block h fun g hg => ht.block g (h.lt g hg).2 (hd g hg)
theorem own_drewN (h : w.ownsRow base e size v n xs) (k : Nat) : (w.drewN k).ownsRow base e size v n xs := h
theorem own_far {p : Addr} (h : w.ownsRow base e size v n xs) (hp : ∀ g, v.ownBlock = some g → g ≠ p.block) (u : Value) : (w.setCell p u).ownsRow base e size v n xs :=
  own_block h fun g hg => Below.heap_setCell w p u g (hp g hg)
/-- The slice lies in the range lo to hi. -/
theorem own_at {A : Option Addr} {c lo hi : Nat} (h : w.ownsRow base e size (.slice A n c) n xs) (hr : ∀ g, (Value.slice A n c).ownBlock = some g → lo ≤ g ∧ g < hi) : OwnC lo hi w e A xs := by
  intro h0
  obtain ⟨hl, h2⟩ := h
  rcases h2 with ⟨hv, hn⟩ | ⟨g, cap, cur, hv, hb, hh, _, _, _, ht⟩
  · subst hn; simp at hl; rw [hl] at h0; simp at h0
  · have hA : A = some ⟨g, 0, none⟩ := by injection hv
    subst hA
    obtain ⟨a, b⟩ := hr g rfl
    exact ⟨g, cur, rfl, a, b, hh, by rw [hl]; exact ht⟩
theorem Turn.wide {lo hi a b : Nat} (h : Turn a b w w') (hs : ∀ g, a ≤ g → g < b → lo ≤ g ∧ g < hi) : Turn lo hi w w' :=
  ⟨h.os, h.tape, h.output, h.size, fun k hk hn => h.block k hk (fun ⟨x, y⟩ => hn (hs k x y))⟩
theorem own_range {A : Option Addr} {c : Nat} (h : w.ownsRow base e size (.slice A n c) n xs) : ∃ a b, OwnC a b w e A xs ∧ (∀ g, a ≤ g → g < b → (Value.slice A n c).ownBlock = some g) := by
  rcases own_cases h with ⟨hv, hn⟩ | ⟨g, cap, hv, hg⟩
  · refine ⟨0, 0, own_at h (fun g hg => ?_), fun g _ h0 => absurd h0 (by omega)⟩
    rw [hv] at hg; simp [Value.ownBlock] at hg
  · refine ⟨g, g + 1, own_at h (fun g' hg' => ?_), fun g' h1 h2 => ?_⟩
    · rw [hv] at hg'; simp [Value.ownBlock] at hg'; omega
    · obtain rfl : g' = g := by omega
      rw [hv]; rfl
theorem own_mono {base' : Nat} (h : w.ownsRow base e size v n xs) (hb : base' ≤ base) : w.ownsRow base' e size v n xs := h.mono hb
theorem own_cap {A : Option Addr} {c : Nat} (h : w.ownsRow base e size (.slice A n c) n xs) : n ≤ c ∧ c ≤ 9223372036854775807 := by
  rcases h.2 with ⟨hv, hn⟩ | ⟨g, cap, cur, hv, hb, hh, h1, h2, _⟩
  · injection hv; omega
  · injection hv with _ _ e; subst e; exact ⟨h1, by simpa [maxLen] using h2⟩
theorem own_len (h : w.ownsRow base e size v n xs) : xs.length = n * size := h.1
/-- Two slices that share no block. -/
def Apart (v v' : Value) : Prop := ∀ g, v.ownBlock = some g → v'.ownBlock ≠ some g
theorem Apart.symm {v v' : Value} (h : Apart v v') : Apart v' v := fun g h1 h2 => h g h2 h1
/-- One slice was there before the other was made. -/
theorem apart_new {base' : Nat} {e' : TypeId} {size' n' : Nat} {v' : Value} {ys : List Value} {w2 : World} (h : w.ownsRow base e size v n xs) (h' : w2.ownsRow base' e' size' v' n' ys) (hb : w.heap.size ≤ base') : Apart v v' :=
  fun g h1 h2 => by have a := (h.lt g h1).2; have b := (h'.lt g h2).1; omega
end

/-- Block g is just the cells cs of type t, none frozen. -/
def Blk (w : World) (g : Nat) (t : TypeId) (cs : Array Value) : Prop := w.heap[g]? = some (.cells cs t (0, 0))
section
variable {w w' : World} {g B : Nat} {t : TypeId} {cs : Array Value}
theorem Blk.lt (h : Blk w g t cs) : g < w.heap.size := (Array.getElem?_eq_some_iff.1 h).1
theorem Blk.cell (h : Blk w g t cs) (i : Nat) : w.cell? ⟨g, i, none⟩ = cs[i]? := cell_of_row w g i cs t (0, 0) h
theorem Blk.free (h : Blk w g t cs) (i : Nat) : w.frozen? ⟨g, i, none⟩ = false := frozen_of_row _ _ _ _ _ h
theorem Blk.new (hg : g = w.heap.size) : Blk (w.alloc (.cells cs t)) g t cs := by subst hg; exact heap_alloc_new w _
theorem Blk.alloc (h : Blk w g t cs) (o : Obj) : Blk (w.alloc o) g t cs := (Below.heap_alloc w o g h.lt).trans h
theorem Blk.drewN (h : Blk w g t cs) (n : Nat) : Blk (w.drewN n) g t cs := h
theorem Blk.drew (h : Blk w g t cs) : Blk w.drew g t cs := h
theorem Blk.set (h : Blk w g t cs) (i : Nat) (u : Value) : Blk (w.setCell ⟨g, i, none⟩ u) g t (cs.setIfInBounds i u) := heap_setCell_same w g i cs t u h
theorem Blk.far (h : Blk w g t cs) {p : Addr} (hp : g ≠ p.block) (u : Value) : Blk (w.setCell p u) g t cs := (Below.heap_setCell w p u g hp).trans h
theorem blk_below (hb : Below B w w') (h : Blk w g t cs) (hg : g < B) : Blk w' g t cs := (hb.block g hg).trans h
theorem blk_turn {lo hi : Nat} (ht : Turn lo hi w w') (h : Blk w g t cs) (hg : g < lo ∨ hi ≤ g) : Blk w' g t cs := (ht.block g h.lt (by omega)).trans h
theorem blk_turn' {lo hi : Nat} (ht : Turn lo hi w w') (h : Blk w g t cs) (hg : ¬ (lo ≤ g ∧ g < hi)) : Blk w' g t cs := (ht.block g h.lt hg).trans h
theorem blk_grown {row : Option Nat} (hb : w.grownBy w' row) (h : Blk w g t cs) (hg : some g ≠ row) : Blk w' g t cs := (hb.block g h.lt hg).trans h
/-- The cells of a block of two cells. -/
theorem Blk.two {a b : Value} (h : Blk w g t #[a, b]) : w.cell? ⟨g, 0, none⟩ = some a ∧ w.cell? ⟨g, 1, none⟩ = some b ∧ w.frozen? ⟨g, 0, none⟩ = false ∧ w.frozen? ⟨g, 1, none⟩ = false :=
  ⟨h.cell 0, h.cell 1, h.free 0, h.free 1⟩
end
end Go.Proofs.Ytpfbkmpjneclpaa
