/- The draw of late volumes: its state. -/
import Derived.Test.YtjkbooflbfnbiaaThinK
import Derived.Test.YtjkbooflbfnbiaaNewLaw
import Derived.Test.YtjkbooflbfnbiaaAppR
import Derived.Deep.RegionWith
namespace Go.Proofs.Ytjkbooflbfnbiaa
open Go.RowKit
set_option linter.unusedVariables false

theorem grown_below {W w w' : World} {row : Option Nat} {lo : Nat} (h : W.grownBy w row) (b : Below lo w w') (hl : W.heap.size ≤ lo) : W.grownBy w' row :=
  ⟨b.os.trans h.os, b.tape.trans h.tape, b.output.trans h.output, Nat.le_trans h.size b.size, fun k hk hn => (b.block k (by omega)).trans (h.block k hk hn)⟩
theorem ThinO.grown {lo hi rb : Nat} {w w' : World} {v : Value} {W P : List Int} (h : ThinO lo hi w v W P) (hg : w.grownBy w' (some rb)) (hr : rb < lo) : ThinO lo hi w' v W P := by
  obtain ⟨A, c, B, d, rfl, h1, h2, h3, h4, h5⟩ := h
  exact ⟨A, c, B, d, rfl, own_block h1 (fun g hq => hg.block g (h1.lt g hq).2 (fun e => by injection e with e; have := (h1.lt g hq).1; omega)), own_block h2 (fun g hq => hg.block g (h2.lt g hq).2 (fun e => by injection e with e; have := (h2.lt g hq).1; omega)), h3, h4, h5⟩

/-- The box gx holds the volume, in blocks of the call's own; the reader rb has made at most Q steps. -/
def TSt (W : World) (rb Q gx : Nat) (A : Option Addr) (c : Nat) (B : Option Addr) (d : Nat) (Wl Pl : List Int) (w : World) : Prop :=
  (∃ lo hi, ThinO lo hi w (.agg #[.slice A Wl.length c, .slice B Pl.length d]) Wl Pl ∧ W.heap.size + 1 ≤ lo ∧ (hi ≤ gx ∨ gx + 1 ≤ lo)) ∧ Blk w gx 27 #[.slice A Wl.length c, .slice B Pl.length d] ∧
    Blk w W.heap.size 27 #[.slice none 0 0, .slice none 0 0] ∧ RdAt w rb Q ∧ W.grownBy w (some rb) ∧ rb < W.heap.size ∧ W.heap.size < gx
section
variable {W w w' : World} {rb Q Q' gx c d : Nat} {A B : Option Addr} {Wl Pl : List Int}
theorem TSt.read (h : TSt W rb Q gx A c B d Wl Pl w) : ThinR w (.agg #[.slice A Wl.length c, .slice B Pl.length d]) Wl Pl := by
  obtain ⟨⟨_, _, h, _⟩, _⟩ := h
  exact h.read
theorem TSt.box (h : TSt W rb Q gx A c B d Wl Pl w) : Blk w gx 27 #[.slice A Wl.length c, .slice B Pl.length d] := h.2.1
theorem TSt.rd (h : TSt W rb Q gx A c B d Wl Pl w) : RdAt w rb Q := h.2.2.2.1
theorem TSt.drew (h : TSt W rb Q gx A c B d Wl Pl w) : TSt W rb Q gx A c B d Wl Pl w.drew := by
  obtain ⟨⟨lo, hi, h, h1, h2⟩, a, b, r, g, l⟩ := h
  exact ⟨⟨lo, hi, h.drew, h1, h2⟩, a.drew, b.drew, r.drew, gdrew g, l⟩
theorem TSt.pick (h : TSt W rb Q gx A c B d Wl Pl w) (hr : RdAt w' rb Q') (hg : w.grownBy w' (some rb)) : TSt W rb Q' gx A c B d Wl Pl w' := by
  obtain ⟨⟨lo, hi, h, h1, h2⟩, a, b, r, g, l1, l2⟩ := h
  exact ⟨⟨lo, hi, h.grown hg (by omega), h1, h2⟩, blk_grown hg a (by intro e; injection e with e; omega), blk_grown hg b (by intro e; injection e with e; omega), hr, gtrans g hg, l1, l2⟩
theorem TSt.put {A' B' : Option Addr} {c' d' : Nat} {W' P' : List Int} (h : TSt W rb Q gx A c B d Wl Pl w) (b : Below w.heap.size w w') (o : ThinO w.heap.size w'.heap.size w' (.agg #[.slice A' W'.length c', .slice B' P'.length d']) W' P') :
    TSt W rb Q gx A' c' B' d' W' P' ((w'.setCell ⟨gx, 0, none⟩ (.slice A' W'.length c')).setCell ⟨gx, 1, none⟩ (.slice B' P'.length d')) := by
  obtain ⟨_, a, k, r, g, l1, l2⟩ := h
  have hlt := a.lt
  have hs := b.size
  have a1 := blk_below b a hlt
  have k1 := blk_below b k (by omega)
  refine ⟨⟨w.heap.size, w'.heap.size, o.turn (((Turn.refl gx (gx + 1) _).setCell (by simp) (by simp) _).setCell (by simp) (by simp) _) (.inl (by omega)), by omega, .inr (by omega)⟩,
    (a1.set 0 _).set 1 _, (k1.far (p := ⟨gx, 0, none⟩) (by show _ ≠ gx; omega) _).far (p := ⟨gx, 1, none⟩) (by show _ ≠ gx; omega) _, ((r.below b (by omega)).setCell (a := ⟨gx, 0, none⟩) (by show _ < gx; omega) _).setCell (a := ⟨gx, 1, none⟩) (by show _ < gx; omega) _, ?_, l1, l2⟩
  exact grown_below (lo := W.heap.size) g (((b.mono g.size).setCell (p := ⟨gx, 0, none⟩) (by show _ ≤ gx; omega) _).setCell (p := ⟨gx, 1, none⟩) (by show _ ≤ gx; omega) _) (Nat.le_refl _)
theorem TSt.start {w0 w2 w3 : World} (hw0 : w0 = W.alloc (.cells #[.slice none 0 0, .slice none 0 0] 27)) (hr : RdAt w2 rb Q) (hg : w0.grownBy w2 (some rb)) (hlt : rb < W.heap.size) (b : Below w2.heap.size w2 w3)
    (o : ThinO w2.heap.size w3.heap.size w3 (.agg #[.slice A Wl.length c, .slice B Pl.length d]) Wl Pl) :
    TSt W rb Q w3.heap.size A c B d Wl Pl (w3.alloc (.cells #[.slice A Wl.length c, .slice B Pl.length d] 27)) := by
  have h0 : Blk w0 W.heap.size 27 #[.slice none 0 0, .slice none 0 0] := by rw [hw0]; exact Blk.new rfl
  have g0 : W.grownBy w0 (some rb) := by rw [hw0]; exact World.grownBy_alloc W _ _
  have s0 := hg.size
  have l0 := h0.lt
  have s3 := b.size
  have h2 := blk_grown hg h0 (by intro e; injection e with e; omega)
  have h3 := blk_below b h2 h2.lt
  exact ⟨⟨_, _, o.below (b_alloc (Below.refl _ _) _), by omega, .inl (Nat.le_refl _)⟩, Blk.new rfl, h3.alloc _, (hr.below b (by omega)).alloc _, galloc (grown_below (gtrans g0 hg) b (by omega)) _, hlt, by omega⟩
end
end Go.Proofs.Ytjkbooflbfnbiaa
