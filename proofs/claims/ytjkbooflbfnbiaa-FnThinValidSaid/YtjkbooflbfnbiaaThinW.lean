/- Volumes of sectors that get their places late: what it says of memory that a value is such a volume. -/
import Derived.Test.YtjkbooflbfnbiaaOwn
import Derived.Test.YtjkbooflbfnbiaaInts
namespace Go.Proofs.Ytjkbooflbfnbiaa
open Go.RowKit
set_option linter.unusedVariables false

/-- The value reads as the volume of the places W and the pool P. -/
def ThinR (w : World) (v : Value) (W P : List Int) : Prop :=
  ∃ A c B d, v = .agg #[.slice A W.length c, .slice B P.length d] ∧ IntsIn w A W ∧ IntsIn w B P ∧ W.length ≤ c ∧ c ≤ 9223372036854775807 ∧ P.length ≤ d ∧ d ≤ 9223372036854775807
/-- .. and lies in two blocks of the call's own, from lo to hi. -/
def ThinO (lo hi : Nat) (w : World) (v : Value) (W P : List Int) : Prop :=
  ∃ A c B d, v = .agg #[.slice A W.length c, .slice B P.length d] ∧ w.ownsRow lo 3 1 (.slice A W.length c) W.length (W.map (Value.int .i64)) ∧ w.ownsRow lo 3 1 (.slice B P.length d) P.length (P.map (Value.int .i64)) ∧ Apart (.slice A W.length c) (.slice B P.length d) ∧
    (∀ g, (Value.slice A W.length c).ownBlock = some g → g < hi) ∧ (∀ g, (Value.slice B P.length d).ownBlock = some g → g < hi)
theorem ThinO.read {lo hi : Nat} {w : World} {v : Value} {W P : List Int} (h : ThinO lo hi w v W P) : ThinR w v W P := by
  obtain ⟨A, c, B, d, rfl, h1, h2, _⟩ := h
  have a := own_cap h1
  have b := own_cap h2
  exact ⟨A, c, B, d, rfl, IntsIn.of (own_read h1), IntsIn.of (own_read h2), a.1, a.2, b.1, b.2⟩
theorem ThinR.below {w w' : World} {v : Value} {W P : List Int} (h : ThinR w v W P) (hb : Below w.heap.size w w') : ThinR w' v W P := by
  obtain ⟨A, c, B, d, rfl, h1, h2, r⟩ := h
  exact ⟨A, c, B, d, rfl, h1.below hb, h2.below hb, r⟩
theorem ThinO.below {lo hi : Nat} {w w' : World} {v : Value} {W P : List Int} (h : ThinO lo hi w v W P) (hb : Below w.heap.size w w') : ThinO lo hi w' v W P := by
  obtain ⟨A, c, B, d, rfl, h1, h2, h3⟩ := h
  exact ⟨A, c, B, d, rfl, own_below h1 hb (Nat.le_refl _), own_below h2 hb (Nat.le_refl _), h3⟩
theorem ThinO.mono {lo lo' hi hi' : Nat} {w : World} {v : Value} {W P : List Int} (h : ThinO lo hi w v W P) (hl : lo' ≤ lo) (hh : hi ≤ hi') : ThinO lo' hi' w v W P := by
  obtain ⟨A, c, B, d, rfl, h1, h2, h3, h4, h5⟩ := h
  exact ⟨A, c, B, d, rfl, own_mono h1 hl, own_mono h2 hl, h3, fun g hg => Nat.lt_of_lt_of_le (h4 g hg) hh, fun g hg => Nat.lt_of_lt_of_le (h5 g hg) hh⟩
theorem ThinO.turn {lo hi a b : Nat} {w w' : World} {v : Value} {W P : List Int} (h : ThinO lo hi w v W P) (ht : Turn a b w w') (hb : b ≤ lo ∨ hi ≤ a) : ThinO lo hi w' v W P := by
  obtain ⟨A, c, B, d, rfl, h1, h2, h3, h4, h5⟩ := h
  exact ⟨A, c, B, d, rfl, own_turn h1 ht (fun g hg => by have := (h1.lt g hg).1; have := h4 g hg; omega), own_turn h2 ht (fun g hg => by have := (h2.lt g hg).1; have := h5 g hg; omega), h3, h4, h5⟩
theorem ThinO.drewN {lo hi : Nat} {w : World} {v : Value} {W P : List Int} (h : ThinO lo hi w v W P) (n : Nat) : ThinO lo hi (w.drewN n) v W P := h
theorem ThinO.drew {lo hi : Nat} {w : World} {v : Value} {W P : List Int} (h : ThinO lo hi w v W P) : ThinO lo hi w.drew v W P := h
theorem ThinR.drew {w : World} {v : Value} {W P : List Int} (h : ThinR w v W P) : ThinR w.drew v W P := h
theorem ThinO.mk {lo hi : Nat} {w : World} {A B : Option Addr} {c d : Nat} {W P : List Int} (h1 : w.ownsRow lo 3 1 (.slice A W.length c) W.length (W.map (Value.int .i64))) (h2 : w.ownsRow lo 3 1 (.slice B P.length d) P.length (P.map (Value.int .i64)))
    (h3 : Apart (.slice A W.length c) (.slice B P.length d)) (hh : w.heap.size ≤ hi) : ThinO lo hi w (.agg #[.slice A W.length c, .slice B P.length d]) W P :=
  ⟨A, c, B, d, rfl, h1, h2, h3, fun g hg => by have := (h1.lt g hg).2; omega, fun g hg => by have := (h2.lt g hg).2; omega⟩
theorem ThinR.alloc {w : World} {v : Value} {W P : List Int} (h : ThinR w v W P) (o : Obj) : ThinR (w.alloc o) v W P := h.below (b_alloc (Below.refl _ _) o)
/-- No two sectors have one place. -/
def oneB (W : List Int) : Bool := decide (∀ i, i < W.length → 0 ≤ W.getD i 0 → W.getD i 0 ∉ W.take i)
def thinB (W P : List Int) : Bool := decide ((W.length : Int) ≤ 64) && diskB P && allB W (-1) ((P.length : Int) - 1) && oneB W
def viewL (W P : List Int) : List Int := W.map fun p => if 0 ≤ p then P.getD p.toNat 0 else 0
def usedN (W : List Int) : Nat := (W.filter fun p => decide (0 ≤ p)).length
/-- The lowest place that no sector has. -/
def freeP (W : List Int) : Nat → Nat → Nat
  | 0, p => p
  | n + 1, p => if (p : Int) ∈ W then freeP W n (p + 1) else p
end Go.Proofs.Ytjkbooflbfnbiaa
